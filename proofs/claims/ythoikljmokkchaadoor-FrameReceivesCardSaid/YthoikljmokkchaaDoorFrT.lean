/- Frame: Signed, Encode of the reference. -/
import Derived.Test.YthoikljmokkchaaDoorFrMid
import Derived.Test.YthoikljmokkchaaDoorAppStep
import Derived.Deep.RegionHeldLaw
namespace Go.Proofs.YthoikljmokkchaaDoor
open Go.RowKit
theorem enc_pos (n : Nat) : 0 < (Wi.enc n).length := by unfold Wi.enc; split <;> simp
set_option maxRecDepth 100000 in
set_option maxHeartbeats 2000000 in
theorem RSigned_any (f : Fr) (K : Nat → Prop) (a : Option Addr) (c : Nat) (w : World) (hf : f.ok) (hx : Sl K w (.slice a f.b.length c) (u8s f.b)) :
    Calls Tryd.prog 15 #[.agg #[.int .i64 f.q, .int .i64 f.k, .bool f.u, .slice a f.b.length c, .int .u64 (f.t : Int)]] w fun e w' => Cr.NewRet w 5 (u8s (covL f)) e w' := by
  obtain ⟨i0, hi, hz0, hz1, hz2⟩ := parts1 Wi.infoU8
  have HX := hid (hx.mono (K' := fun b => b < w.heap.size) (fun b h _ => h))
  have HF := hid hf
  have hm := hf.n
  clear hx hf
  have HCV : Hd (covL f = Wi.enc (modN f.q) ++ Wi.encI f.k ++ Wi.enc (unl f.u) ++ Wi.encB f.b) := hid rfl
  obtain ⟨m, hmm⟩ : ∃ m, f.b.length = m := ⟨_, rfl⟩
  have HM := hid hmm
  rw [hmm] at HX hm ⊢
  clear hmm
  go_enter Tryd.func15, Tryd.ntmps15
  go_upto_region 1 with fail
  generalize hW : World.alloc w _ = W1
  have KS : Hd (Keeps (fun _ => False) w W1) := hid (by rw [← hW]; exact (Keeps.alloc (Keeps.refl (fun _ => False) w) _))
  have HX' : Hd (Sl (fun b => b < w.heap.size) W1 (.slice a m c) (u8s f.b)) := hid (HX.out.keep KS.out (fun _ _ _ h => h))
  have BF : Hd (Blk W1 w.heap.size #[(.int .i64 f.q), (.int .i64 f.k), (.bool f.u), (.slice a m c), (.int .u64 (f.t : Int))] 25) := hid (by rw [← hW]; exact (blk_new _ _ _))
  clear HX
  have HX := HX'
  clear HX'
  have HK : Hd (Keeps (fun _ => False) w W1) := hid KS.out
  have z_W1 : w.heap.size + 1 ≤ W1.heap.size := by rw [← hW]; simp
  clear hW KS
  obtain ⟨u, hu⟩ : ∃ u, f.u = u := ⟨_, rfl⟩
  have HU := hid hu
  rw [hu] at BF
  clear hu
  rw [HU.out] at HCV
  cases u
  · have HUN : Hd (unl false = 0) := hid rfl
    rw [HUN.out] at HCV
    have o_BF_0 : W1.cell? ⟨w.heap.size, 0, none⟩ = some ((.int .i64 f.q)) := blk_cell BF.out 0
    have o_BF_2 : W1.cell? ⟨w.heap.size, 2, none⟩ = some ((.bool false)) := blk_cell BF.out 2
    go_wp2_with fail
    refine (Mod_any f.q _ HF.out.q0 HF.out.q1).mono ?_
    rintro e wx ⟨rfl, rfl⟩
    obtain ⟨mq, hmq⟩ : ∃ mq, modN f.q = mq := ⟨_, rfl⟩
    have hmq1 : mq < 256 := by rw [← hmq]; exact modN_lt _
    rw [hmq]
    rw [hmq] at HCV
    have HMQ := hid hmq
    clear hmq
    have hwm : IntKind.u64.wrap (mq : Int) = (mq : Int) := by simp [IntKind.wrap, IntKind.bits, IntKind.signed]; omega
    go_wp2_with fail
    try rw [hwm]
    clear o_BF_0 o_BF_2
    refine (Wi.EUint_any mq _ (by omega)).mono ?_
    rintro e W2 ⟨a1, n1, c1, rfl, hn1, ho, hk⟩
    have HO1 := hid ho
    have l1 : n1 ≤ 10 := by rw [hn1, u8s_length]; exact Wi.enc_len10 (by omega)
    have HN1 := hid hn1
    clear hn1 ho hwm
    have HX' : Hd (Sl (fun b => b < w.heap.size) W2 (.slice a m c) (u8s f.b)) := hid (HX.out.keep hk (fun _ _ _ h => h))
    have BF' : Hd (Blk W2 w.heap.size #[(.int .i64 f.q), (.int .i64 f.k), (.bool false), (.slice a m c), (.int .u64 (f.t : Int))] 25) := hid (blk_keep BF.out hk (fun h => h))
    clear HX BF
    have HX := HX'
    clear HX'
    have BF := BF'
    clear BF'
    have HK' : Hd (Keeps (fun _ => False) w W2) := hid (HK.out.trans hk)
    clear HK
    have HK := HK'
    clear HK'
    have z_W2 := hk.size
    clear hk
    have o_BF_1 : W2.cell? ⟨w.heap.size, 1, none⟩ = some ((.int .i64 f.k)) := blk_cell BF.out 1
    go_wp2_with fail
    refine (Wi.EInt_any f.k _ HF.out.k0 HF.out.k1).mono ?_
    rintro e W3 ⟨a2, n2, c2, rfl, hn2, ho, hk⟩
    have HO2 := hid (ho.mono (K' := fun k => W1.heap.size ≤ k) (fun b _ hb => by omega))
    have l2 : n2 ≤ 10 := by rw [hn2, u8s_length]; exact Wi.enc_len10 (Wi.zig_le HF.out.k0 HF.out.k1)
    have HN2 := hid hn2
    clear hn2 ho
    clear o_BF_1
    have HX' : Hd (Sl (fun b => b < w.heap.size) W3 (.slice a m c) (u8s f.b)) := hid (HX.out.keep hk (fun _ _ _ h => h))
    have BF' : Hd (Blk W3 w.heap.size #[(.int .i64 f.q), (.int .i64 f.k), (.bool false), (.slice a m c), (.int .u64 (f.t : Int))] 25) := hid (blk_keep BF.out hk (fun h => h))
    have HO1' : Hd (Own (fun k => W1.heap.size ≤ k) W3 5 1 (.slice a1 n1 c1) n1 (u8s (Wi.enc mq))) := hid (HO1.out.keep hk (fun _ _ _ h => h))
    clear HX BF HO1
    have HX := HX'
    clear HX'
    have BF := BF'
    clear BF'
    have HO1 := HO1'
    clear HO1'
    have HK' : Hd (Keeps (fun _ => False) w W3) := hid (HK.out.trans hk)
    clear HK
    have HK := HK'
    clear HK'
    have z_W3 := hk.size
    clear hk
    go_wp2_with (at_builtin; refine wpList_append_row rfl _ _ 22 rfl 5 i0 (.int .u8 0) 1 1 Tryd.underlying22 hi hz0 hz1 hz2 rfl (by decide) _ (fun _ => True) _ _ _ _ rfl HO1.out n2 _ rfl (HO2.out.row.mono (fun _ _ _ => trivial)) (u8s_one _) ?h1 ?h2 ?_)
    case h1 => simp [maxLen]; omega
    case h2 => omega
    intro a3 c3 W4 hown hk; try intro _
    rw [← u8s_append] at hown
    have HO3 := hid (hown.mono (K' := fun k => W1.heap.size ≤ k) (fun b _ hb => by rcases hb with hb | hb <;> omega))
    clear hown HO1 HO2
    have HX' : Hd (Sl (fun b => b < w.heap.size) W4 (.slice a m c) (u8s f.b)) := hid (HX.out.keep hk (fun b h1 h2 h3 => by omega))
    have BF' : Hd (Blk W4 w.heap.size #[(.int .i64 f.q), (.int .i64 f.k), (.bool false), (.slice a m c), (.int .u64 (f.t : Int))] 25) := hid (blk_keep BF.out hk (fun h => by omega))
    clear HX BF
    have HX := HX'
    clear HX'
    have BF := BF'
    clear BF'
    have HK' : Hd (Keeps (fun _ => False) w W4) := hid (HK.out.trans' hk (fun i hi h => by omega))
    clear HK
    have HK := HK'
    clear HK'
    have z_W4 := hk.size
    clear hk
    go_wp2_with fail
    refine (Wi.EUint_any 0 _ (by omega)).mono ?_
    rintro e W5 ⟨a4, n4, c4, rfl, hn4, ho, hk⟩
    have HO4 := hid (ho.mono (K' := fun k => W1.heap.size ≤ k) (fun b _ hb => by omega))
    have l4 : n4 ≤ 10 := by rw [hn4, u8s_length]; exact Wi.enc_len10 (by omega)
    have HN4 := hid hn4
    clear hn4 ho
    have HX' : Hd (Sl (fun b => b < w.heap.size) W5 (.slice a m c) (u8s f.b)) := hid (HX.out.keep hk (fun _ _ _ h => h))
    have BF' : Hd (Blk W5 w.heap.size #[(.int .i64 f.q), (.int .i64 f.k), (.bool false), (.slice a m c), (.int .u64 (f.t : Int))] 25) := hid (blk_keep BF.out hk (fun h => h))
    have HO3' : Hd (Own (fun k => W1.heap.size ≤ k) W5 5 1 (.slice a3 (n1 + n2) c3) (n1 + n2) (u8s (Wi.enc mq ++ Wi.encI f.k))) := hid (HO3.out.keep hk (fun _ _ _ h => h))
    clear HX BF HO3
    have HX := HX'
    clear HX'
    have BF := BF'
    clear BF'
    have HO3 := HO3'
    clear HO3'
    have HK' : Hd (Keeps (fun _ => False) w W5) := hid (HK.out.trans hk)
    clear HK
    have HK := HK'
    clear HK'
    have z_W5 := hk.size
    clear hk
    go_wp2_with (at_builtin; refine wpList_append_row rfl _ _ 22 rfl 5 i0 (.int .u8 0) 1 1 Tryd.underlying22 hi hz0 hz1 hz2 rfl (by decide) _ (fun _ => True) _ _ _ _ rfl HO3.out n4 _ rfl (HO4.out.row.mono (fun _ _ _ => trivial)) (u8s_one _) ?h1 ?h2 ?_)
    case h1 => simp [maxLen]; omega
    case h2 => omega
    intro a5 c5 W6 hown hk; try intro _
    rw [← u8s_append] at hown
    have HO5 := hid (hown.mono (K' := fun k => W1.heap.size ≤ k) (fun b _ hb => by rcases hb with hb | hb <;> omega))
    clear hown HO3 HO4
    have HX' : Hd (Sl (fun b => b < w.heap.size) W6 (.slice a m c) (u8s f.b)) := hid (HX.out.keep hk (fun b h1 h2 h3 => by omega))
    have BF' : Hd (Blk W6 w.heap.size #[(.int .i64 f.q), (.int .i64 f.k), (.bool false), (.slice a m c), (.int .u64 (f.t : Int))] 25) := hid (blk_keep BF.out hk (fun h => by omega))
    clear HX BF
    have HX := HX'
    clear HX'
    have BF := BF'
    clear BF'
    have HK' : Hd (Keeps (fun _ => False) w W6) := hid (HK.out.trans' hk (fun i hi h => by omega))
    clear HK
    have HK := HK'
    clear HK'
    have z_W6 := hk.size
    clear hk
    have o_BF_3 : W6.cell? ⟨w.heap.size, 3, none⟩ = some ((.slice a m c)) := blk_cell BF.out 3
    go_wp2_with fail
    refine (Wi.EBytes_any _ _ f.b _ HX.out (by rw [HM.out]; omega)).mono ?_
    rintro e W7 ⟨a6, n6, c6, rfl, hn6, ho, hk⟩
    have HO6 := hid (ho.mono (K' := fun k => W1.heap.size ≤ k) (fun b _ hb => by omega))
    have l6 : n6 ≤ m + 10 := by rw [hn6, u8s_length, Wi.encB, List.length_append, HM.out]; have := Wi.enc_len10 (n := m) (by omega); omega
    have HN6 := hid hn6
    clear hn6 ho
    clear o_BF_3
    have HX' : Hd (Sl (fun b => b < w.heap.size) W7 (.slice a m c) (u8s f.b)) := hid (HX.out.keep hk (fun _ _ _ h => h))
    have BF' : Hd (Blk W7 w.heap.size #[(.int .i64 f.q), (.int .i64 f.k), (.bool false), (.slice a m c), (.int .u64 (f.t : Int))] 25) := hid (blk_keep BF.out hk (fun h => h))
    have HO5' : Hd (Own (fun k => W1.heap.size ≤ k) W7 5 1 (.slice a5 (n1 + n2 + n4) c5) (n1 + n2 + n4) (u8s (Wi.enc mq ++ Wi.encI f.k ++ Wi.enc 0))) := hid (HO5.out.keep hk (fun _ _ _ h => h))
    clear HX BF HO5
    have HX := HX'
    clear HX'
    have BF := BF'
    clear BF'
    have HO5 := HO5'
    clear HO5'
    have HK' : Hd (Keeps (fun _ => False) w W7) := hid (HK.out.trans hk)
    clear HK
    have HK := HK'
    clear HK'
    have z_W7 := hk.size
    clear hk
    go_wp2_with (at_builtin; refine wpList_append_row rfl _ _ 22 rfl 5 i0 (.int .u8 0) 1 1 Tryd.underlying22 hi hz0 hz1 hz2 rfl (by decide) _ (fun _ => True) _ _ _ _ rfl HO5.out n6 _ rfl (HO6.out.row.mono (fun _ _ _ => trivial)) (u8s_one _) ?h1 ?h2 ?_)
    case h1 => simp [maxLen]; omega
    case h2 => omega
    intro a7 c7 W8 hown hk; try intro _
    rw [← u8s_append] at hown
    have HO7 := hid (hown.mono (K' := fun k => W1.heap.size ≤ k) (fun b _ hb => by rcases hb with hb | hb <;> omega))
    clear hown HO5 HO6
    have HX' : Hd (Sl (fun b => b < w.heap.size) W8 (.slice a m c) (u8s f.b)) := hid (HX.out.keep hk (fun b h1 h2 h3 => by omega))
    have BF' : Hd (Blk W8 w.heap.size #[(.int .i64 f.q), (.int .i64 f.k), (.bool false), (.slice a m c), (.int .u64 (f.t : Int))] 25) := hid (blk_keep BF.out hk (fun h => by omega))
    clear HX BF
    have HX := HX'
    clear HX'
    have BF := BF'
    clear BF'
    have HK' : Hd (Keeps (fun _ => False) w W8) := hid (HK.out.trans' hk (fun i hi h => by omega))
    clear HK
    have HK := HK'
    clear HK'
    have z_W8 := hk.size
    clear hk
    go_wp2
    go_ret
    refine ⟨a7, n1 + n2 + n4 + n6, c7, rfl, ?_, ?_, HK.out⟩
    · rw [HCV.out, HN1.out, HN2.out, HN4.out, HN6.out]; simp only [u8s_length, List.length_append]
    · rw [HCV.out]; have h := HO7.out; simp only [List.append_assoc] at h ⊢; exact h.mono (fun b _ h => by have := HK.out.size; omega)
  · have HUN : Hd (unl true = 1) := hid rfl
    rw [HUN.out] at HCV
    have o_BF_0 : W1.cell? ⟨w.heap.size, 0, none⟩ = some ((.int .i64 f.q)) := blk_cell BF.out 0
    have o_BF_2 : W1.cell? ⟨w.heap.size, 2, none⟩ = some ((.bool true)) := blk_cell BF.out 2
    go_wp2_with fail
    refine (Mod_any f.q _ HF.out.q0 HF.out.q1).mono ?_
    rintro e wx ⟨rfl, rfl⟩
    obtain ⟨mq, hmq⟩ : ∃ mq, modN f.q = mq := ⟨_, rfl⟩
    have hmq1 : mq < 256 := by rw [← hmq]; exact modN_lt _
    rw [hmq]
    rw [hmq] at HCV
    have HMQ := hid hmq
    clear hmq
    have hwm : IntKind.u64.wrap (mq : Int) = (mq : Int) := by simp [IntKind.wrap, IntKind.bits, IntKind.signed]; omega
    go_wp2_with fail
    try rw [hwm]
    clear o_BF_0 o_BF_2
    refine (Wi.EUint_any mq _ (by omega)).mono ?_
    rintro e W2 ⟨a1, n1, c1, rfl, hn1, ho, hk⟩
    have HO1 := hid ho
    have l1 : n1 ≤ 10 := by rw [hn1, u8s_length]; exact Wi.enc_len10 (by omega)
    have HN1 := hid hn1
    clear hn1 ho hwm
    have HX' : Hd (Sl (fun b => b < w.heap.size) W2 (.slice a m c) (u8s f.b)) := hid (HX.out.keep hk (fun _ _ _ h => h))
    have BF' : Hd (Blk W2 w.heap.size #[(.int .i64 f.q), (.int .i64 f.k), (.bool true), (.slice a m c), (.int .u64 (f.t : Int))] 25) := hid (blk_keep BF.out hk (fun h => h))
    clear HX BF
    have HX := HX'
    clear HX'
    have BF := BF'
    clear BF'
    have HK' : Hd (Keeps (fun _ => False) w W2) := hid (HK.out.trans hk)
    clear HK
    have HK := HK'
    clear HK'
    have z_W2 := hk.size
    clear hk
    have o_BF_1 : W2.cell? ⟨w.heap.size, 1, none⟩ = some ((.int .i64 f.k)) := blk_cell BF.out 1
    go_wp2_with fail
    refine (Wi.EInt_any f.k _ HF.out.k0 HF.out.k1).mono ?_
    rintro e W3 ⟨a2, n2, c2, rfl, hn2, ho, hk⟩
    have HO2 := hid (ho.mono (K' := fun k => W1.heap.size ≤ k) (fun b _ hb => by omega))
    have l2 : n2 ≤ 10 := by rw [hn2, u8s_length]; exact Wi.enc_len10 (Wi.zig_le HF.out.k0 HF.out.k1)
    have HN2 := hid hn2
    clear hn2 ho
    clear o_BF_1
    have HX' : Hd (Sl (fun b => b < w.heap.size) W3 (.slice a m c) (u8s f.b)) := hid (HX.out.keep hk (fun _ _ _ h => h))
    have BF' : Hd (Blk W3 w.heap.size #[(.int .i64 f.q), (.int .i64 f.k), (.bool true), (.slice a m c), (.int .u64 (f.t : Int))] 25) := hid (blk_keep BF.out hk (fun h => h))
    have HO1' : Hd (Own (fun k => W1.heap.size ≤ k) W3 5 1 (.slice a1 n1 c1) n1 (u8s (Wi.enc mq))) := hid (HO1.out.keep hk (fun _ _ _ h => h))
    clear HX BF HO1
    have HX := HX'
    clear HX'
    have BF := BF'
    clear BF'
    have HO1 := HO1'
    clear HO1'
    have HK' : Hd (Keeps (fun _ => False) w W3) := hid (HK.out.trans hk)
    clear HK
    have HK := HK'
    clear HK'
    have z_W3 := hk.size
    clear hk
    go_wp2_with (at_builtin; refine wpList_append_row rfl _ _ 22 rfl 5 i0 (.int .u8 0) 1 1 Tryd.underlying22 hi hz0 hz1 hz2 rfl (by decide) _ (fun _ => True) _ _ _ _ rfl HO1.out n2 _ rfl (HO2.out.row.mono (fun _ _ _ => trivial)) (u8s_one _) ?h1 ?h2 ?_)
    case h1 => simp [maxLen]; omega
    case h2 => omega
    intro a3 c3 W4 hown hk; try intro _
    rw [← u8s_append] at hown
    have HO3 := hid (hown.mono (K' := fun k => W1.heap.size ≤ k) (fun b _ hb => by rcases hb with hb | hb <;> omega))
    clear hown HO1 HO2
    have HX' : Hd (Sl (fun b => b < w.heap.size) W4 (.slice a m c) (u8s f.b)) := hid (HX.out.keep hk (fun b h1 h2 h3 => by omega))
    have BF' : Hd (Blk W4 w.heap.size #[(.int .i64 f.q), (.int .i64 f.k), (.bool true), (.slice a m c), (.int .u64 (f.t : Int))] 25) := hid (blk_keep BF.out hk (fun h => by omega))
    clear HX BF
    have HX := HX'
    clear HX'
    have BF := BF'
    clear BF'
    have HK' : Hd (Keeps (fun _ => False) w W4) := hid (HK.out.trans' hk (fun i hi h => by omega))
    clear HK
    have HK := HK'
    clear HK'
    have z_W4 := hk.size
    clear hk
    go_wp2_with fail
    refine (Wi.EUint_any 1 _ (by omega)).mono ?_
    rintro e W5 ⟨a4, n4, c4, rfl, hn4, ho, hk⟩
    have HO4 := hid (ho.mono (K' := fun k => W1.heap.size ≤ k) (fun b _ hb => by omega))
    have l4 : n4 ≤ 10 := by rw [hn4, u8s_length]; exact Wi.enc_len10 (by omega)
    have HN4 := hid hn4
    clear hn4 ho
    have HX' : Hd (Sl (fun b => b < w.heap.size) W5 (.slice a m c) (u8s f.b)) := hid (HX.out.keep hk (fun _ _ _ h => h))
    have BF' : Hd (Blk W5 w.heap.size #[(.int .i64 f.q), (.int .i64 f.k), (.bool true), (.slice a m c), (.int .u64 (f.t : Int))] 25) := hid (blk_keep BF.out hk (fun h => h))
    have HO3' : Hd (Own (fun k => W1.heap.size ≤ k) W5 5 1 (.slice a3 (n1 + n2) c3) (n1 + n2) (u8s (Wi.enc mq ++ Wi.encI f.k))) := hid (HO3.out.keep hk (fun _ _ _ h => h))
    clear HX BF HO3
    have HX := HX'
    clear HX'
    have BF := BF'
    clear BF'
    have HO3 := HO3'
    clear HO3'
    have HK' : Hd (Keeps (fun _ => False) w W5) := hid (HK.out.trans hk)
    clear HK
    have HK := HK'
    clear HK'
    have z_W5 := hk.size
    clear hk
    go_wp2_with (at_builtin; refine wpList_append_row rfl _ _ 22 rfl 5 i0 (.int .u8 0) 1 1 Tryd.underlying22 hi hz0 hz1 hz2 rfl (by decide) _ (fun _ => True) _ _ _ _ rfl HO3.out n4 _ rfl (HO4.out.row.mono (fun _ _ _ => trivial)) (u8s_one _) ?h1 ?h2 ?_)
    case h1 => simp [maxLen]; omega
    case h2 => omega
    intro a5 c5 W6 hown hk; try intro _
    rw [← u8s_append] at hown
    have HO5 := hid (hown.mono (K' := fun k => W1.heap.size ≤ k) (fun b _ hb => by rcases hb with hb | hb <;> omega))
    clear hown HO3 HO4
    have HX' : Hd (Sl (fun b => b < w.heap.size) W6 (.slice a m c) (u8s f.b)) := hid (HX.out.keep hk (fun b h1 h2 h3 => by omega))
    have BF' : Hd (Blk W6 w.heap.size #[(.int .i64 f.q), (.int .i64 f.k), (.bool true), (.slice a m c), (.int .u64 (f.t : Int))] 25) := hid (blk_keep BF.out hk (fun h => by omega))
    clear HX BF
    have HX := HX'
    clear HX'
    have BF := BF'
    clear BF'
    have HK' : Hd (Keeps (fun _ => False) w W6) := hid (HK.out.trans' hk (fun i hi h => by omega))
    clear HK
    have HK := HK'
    clear HK'
    have z_W6 := hk.size
    clear hk
    have o_BF_3 : W6.cell? ⟨w.heap.size, 3, none⟩ = some ((.slice a m c)) := blk_cell BF.out 3
    go_wp2_with fail
    refine (Wi.EBytes_any _ _ f.b _ HX.out (by rw [HM.out]; omega)).mono ?_
    rintro e W7 ⟨a6, n6, c6, rfl, hn6, ho, hk⟩
    have HO6 := hid (ho.mono (K' := fun k => W1.heap.size ≤ k) (fun b _ hb => by omega))
    have l6 : n6 ≤ m + 10 := by rw [hn6, u8s_length, Wi.encB, List.length_append, HM.out]; have := Wi.enc_len10 (n := m) (by omega); omega
    have HN6 := hid hn6
    clear hn6 ho
    clear o_BF_3
    have HX' : Hd (Sl (fun b => b < w.heap.size) W7 (.slice a m c) (u8s f.b)) := hid (HX.out.keep hk (fun _ _ _ h => h))
    have BF' : Hd (Blk W7 w.heap.size #[(.int .i64 f.q), (.int .i64 f.k), (.bool true), (.slice a m c), (.int .u64 (f.t : Int))] 25) := hid (blk_keep BF.out hk (fun h => h))
    have HO5' : Hd (Own (fun k => W1.heap.size ≤ k) W7 5 1 (.slice a5 (n1 + n2 + n4) c5) (n1 + n2 + n4) (u8s (Wi.enc mq ++ Wi.encI f.k ++ Wi.enc 1))) := hid (HO5.out.keep hk (fun _ _ _ h => h))
    clear HX BF HO5
    have HX := HX'
    clear HX'
    have BF := BF'
    clear BF'
    have HO5 := HO5'
    clear HO5'
    have HK' : Hd (Keeps (fun _ => False) w W7) := hid (HK.out.trans hk)
    clear HK
    have HK := HK'
    clear HK'
    have z_W7 := hk.size
    clear hk
    go_wp2_with (at_builtin; refine wpList_append_row rfl _ _ 22 rfl 5 i0 (.int .u8 0) 1 1 Tryd.underlying22 hi hz0 hz1 hz2 rfl (by decide) _ (fun _ => True) _ _ _ _ rfl HO5.out n6 _ rfl (HO6.out.row.mono (fun _ _ _ => trivial)) (u8s_one _) ?h1 ?h2 ?_)
    case h1 => simp [maxLen]; omega
    case h2 => omega
    intro a7 c7 W8 hown hk; try intro _
    rw [← u8s_append] at hown
    have HO7 := hid (hown.mono (K' := fun k => W1.heap.size ≤ k) (fun b _ hb => by rcases hb with hb | hb <;> omega))
    clear hown HO5 HO6
    have HX' : Hd (Sl (fun b => b < w.heap.size) W8 (.slice a m c) (u8s f.b)) := hid (HX.out.keep hk (fun b h1 h2 h3 => by omega))
    have BF' : Hd (Blk W8 w.heap.size #[(.int .i64 f.q), (.int .i64 f.k), (.bool true), (.slice a m c), (.int .u64 (f.t : Int))] 25) := hid (blk_keep BF.out hk (fun h => by omega))
    clear HX BF
    have HX := HX'
    clear HX'
    have BF := BF'
    clear BF'
    have HK' : Hd (Keeps (fun _ => False) w W8) := hid (HK.out.trans' hk (fun i hi h => by omega))
    clear HK
    have HK := HK'
    clear HK'
    have z_W8 := hk.size
    clear hk
    go_wp2
    go_ret
    refine ⟨a7, n1 + n2 + n4 + n6, c7, rfl, ?_, ?_, HK.out⟩
    · rw [HCV.out, HN1.out, HN2.out, HN4.out, HN6.out]; simp only [u8s_length, List.length_append]
    · rw [HCV.out]; have h := HO7.out; simp only [List.append_assoc] at h ⊢; exact h.mono (fun b _ h => by have := HK.out.size; omega)
end Go.Proofs.YthoikljmokkchaaDoor
