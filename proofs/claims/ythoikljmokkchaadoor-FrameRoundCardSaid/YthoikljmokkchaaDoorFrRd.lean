/- Frame: decoding what was encoded. -/
import Derived.Test.YthoikljmokkchaaDoorFrDd
import Derived.Test.YthoikljmokkchaaDoorCrcAll
import Derived.Test.YthoikljmokkchaaDoorWireAll
namespace Go.Proofs.YthoikljmokkchaaDoor
open Go.RowKit
attribute [local go_sem ↓] Go.wp_at_zero Go.wp_at_succ
theorem encF_lt2 {f : Fr} (h : f.ok) : ∀ c ∈ encF f, c < 256 := by
  unfold encF
  exact Cr.seal_lt (fun c hc => by
    rcases List.mem_append.1 hc with hc | hc
    · exact covL_lt h c hc
    · exact Wi.enc_lt _ _ hc)
def backF (f : Fr) : Fr := ⟨(modN f.q : Nat), f.k, f.u, f.b, f.t⟩
theorem dec_enc {f : Fr} (h : f.ok) : decM (encF f) = if f.k < 0 then (nilF, 5) else if 512 < f.b.length then (nilF, 2) else (backF f, 0) := by
  unfold decM encF
  rw [Cr.opened_seal]
  simp only [if_true]
  have hb : covL f ++ Wi.enc f.t = Wi.enc (modN f.q) ++ (Wi.encI f.k ++ (Wi.enc (unl f.u) ++ (Wi.enc f.b.length ++ (f.b ++ Wi.enc f.t)))) := by
    unfold covL Wi.encB; simp only [List.append_assoc]
  rw [hb]
  generalize hR3 : Wi.enc f.b.length ++ (f.b ++ Wi.enc f.t) = R3
  generalize hR2 : Wi.enc (unl f.u) ++ R3 = R2
  generalize hR1 : Wi.encI f.k ++ R2 = R1
  generalize hB : Wi.enc (modN f.q) ++ R1 = B
  have hm := modN_lt f.q
  have hu := unl_lt f.u
  have e1 : d1 B = ((0, R1), modN f.q) := by unfold d1; rw [← hB]; exact Wi.sU_enc R1 (by omega)
  have e2 : d2 B = (0, R1) := by unfold d2; rw [e1]; unfold chk; rw [if_pos (decide_eq_true hm)]
  have e3 : d3 B = ((0, R2), f.k) := by unfold d3; rw [e2, ← hR1]; exact Wi.sI_enc R2 h.k0 h.k1
  by_cases hk : f.k < 0
  · rw [if_pos hk]
    have e4 : d4 B = (5, R2) := by unfold d4; rw [e3]; unfold chk; rw [if_neg (by simp; omega)]; rfl
    have e5 : d5 B = ((5, R2), 0) := by unfold d5; rw [e4]; exact Wi.sU_err (by show ¬ ((5 : Int) = 0); decide)
    have e6 : d6 B = (5, R2) := by unfold d6; rw [e5]; rfl
    have e7 : d7 B = ((5, R2), []) := by unfold d7; rw [e6]; exact Wi.sB_err 512 (by show ¬ ((5 : Int) = 0); decide)
    have e8 : d8 B = ((5, R2), 0) := by unfold d8; rw [e7]; exact Wi.sU_err (by show ¬ ((5 : Int) = 0); decide)
    have e9 : d9 B = 5 := by unfold d9; rw [e8]; unfold Wi.sEnd; rw [if_neg (fun h => absurd h.1 (by show ¬ ((5 : Int) = 0); decide))]
    unfold decB
    rw [e9, if_neg (by decide)]
  · rw [if_neg hk]
    have e4 : d4 B = (0, R2) := by unfold d4; rw [e3]; unfold chk; rw [if_pos (decide_eq_true (by show 0 ≤ f.k; omega))]
    have e5 : d5 B = ((0, R3), unl f.u) := by unfold d5; rw [e4, ← hR2]; exact Wi.sU_enc R3 (by omega)
    have e6 : d6 B = (0, R3) := by unfold d6; rw [e5]; unfold chk; rw [if_pos (decide_eq_true hu)]
    have hn := h.n
    have es : Wi.sU (0, R3) = ((0, f.b ++ Wi.enc f.t), f.b.length) := by rw [← hR3]; exact Wi.sU_enc _ (by omega)
    by_cases hl : 512 < f.b.length
    · rw [if_pos hl]
      have ez : Wi.sSize 512 (0, R3) = ((2, f.b ++ Wi.enc f.t), 0) := by
        unfold Wi.sSize; rw [es]; rw [if_pos rfl, if_pos (.inr (by show (512 : Int) < (f.b.length : Int); omega))]
      have e7 : d7 B = ((2, f.b ++ Wi.enc f.t), []) := by
        unfold d7; rw [e6]; unfold Wi.sB; rw [ez]; rw [if_neg (by show ¬ ((2 : Int) = 0); decide)]
      have e8 : d8 B = ((2, f.b ++ Wi.enc f.t), 0) := by unfold d8; rw [e7]; exact Wi.sU_err (by show ¬ ((2 : Int) = 0); decide)
      have e9 : d9 B = 2 := by unfold d9; rw [e8]; unfold Wi.sEnd; rw [if_neg (fun h => absurd h.1 (by show ¬ ((2 : Int) = 0); decide))]
      unfold decB
      rw [e9, if_neg (by decide)]
    · rw [if_neg hl]
      have ez : Wi.sSize 512 (0, R3) = ((0, f.b ++ Wi.enc f.t), f.b.length) := by
        unfold Wi.sSize; rw [es]; rw [if_pos rfl, if_neg (by show ¬ ((512 : Int) < 0 ∨ (512 : Int) < (f.b.length : Int)); omega)]
      have e7 : d7 B = ((0, Wi.enc f.t), f.b) := by
        unfold d7; rw [e6]; unfold Wi.sB; rw [ez]
        rw [if_pos rfl, if_neg (by show ¬ (f.b ++ Wi.enc f.t).length < f.b.length; rw [List.length_append]; omega)]
        simp
      have e8 : d8 B = ((0, []), f.t) := by
        unfold d8; rw [e7]
        have := Wi.sU_enc [] (n := f.t) (by have := h.t; omega)
        rw [List.append_nil] at this; exact this
      have e9 : d9 B = 0 := by unfold d9; rw [e8]; rfl
      unfold decB
      rw [e9, if_pos rfl, e1, e3, e5, e7, e8]
      have hu1 : decide (unl f.u = 1) = f.u := by unfold unl; cases f.u <;> rfl
      simp only [hu1]; rfl
set_option maxRecDepth 100000 in
set_option maxHeartbeats 8000000 in
theorem round_any (f : Fr) (a : Option Addr) (c : Nat) (w : World) (hN : Cr.Nib w) (hf : f.ok) (hx : Sl (fun b => b < w.heap.size) w (.slice a f.b.length c) (u8s f.b)) :
    Calls Tryd.prog 11 #[.agg #[.int .i64 f.q, .int .i64 f.k, .bool f.u, .slice a f.b.length c, .int .u64 (f.t : Int)]] w fun e w' => e = .returned (.bool true) ∧ Keeps (fun _ => False) w w' := by
  have HX := hid hx
  have HN : Hd (NibR w) := hid hN
  have hpos := NibR.pos (hN : NibR w)
  have HF := hid hf
  have HE := hid (dec_enc hf)
  have HET : Hd (∀ c ∈ encF f, c < 256) := hid (encF_lt2 hf)
  have HEL : Hd ((encF f).length ≤ 140737488354000) := hid (by
    unfold encF Cr.seal_
    rw [List.length_append, show (Cr.le4 (Cr.crc (covL f ++ Wi.enc f.t))).length = 4 by simp [Cr.le4], List.length_append]
    have h1 := covL_len hf; have h2 := Wi.enc_len10 (n := f.t) (by have := hf.t; omega); have := hf.n; omega)
  have HB : Hd (∀ c ∈ f.b, c < 256) := hid hf.b
  clear hx hN hf
  obtain ⟨en, hen⟩ : ∃ e, encF f = e := ⟨_, rfl⟩
  rw [hen] at HE HET HEL
  have HEN := hid hen
  obtain ⟨m, hmm⟩ : ∃ m, f.b.length = m := ⟨_, rfl⟩
  have HM := hid hmm
  rw [hmm] at HX HE ⊢
  clear hen hmm
  go_enter Tryd.func11, Tryd.ntmps11
  go_upto_region 1 with fail
  generalize hW : World.alloc w _ = W1
  have KS : Hd (Keeps (fun _ => False) w W1) := hid (by rw [← hW]; exact (Keeps.alloc (Keeps.refl (fun _ => False) w) _))
  have HN' : Hd (NibR W1) := hid (HN.out.keep KS.out (fun _ _ _ h => h))
  have HX' : Hd (Sl (fun b => b < w.heap.size) W1 (.slice a m c) (u8s f.b)) := hid (HX.out.keep KS.out (fun _ _ _ h => h))
  have BF : Hd (Blk W1 w.heap.size #[(.int .i64 f.q), (.int .i64 f.k), (.bool f.u), (.slice a m c), (.int .u64 (f.t : Int))] 25) := hid (by rw [← hW]; exact (blk_new _ _ _))
  clear HN HX
  have HN := HN'
  clear HN'
  have HX := HX'
  clear HX'
  have HK : Hd (Keeps (fun _ => False) w W1) := hid KS.out
  have z_W1 : w.heap.size + 1 ≤ W1.heap.size := by rw [← hW]; simp
  clear hW KS
  have o_BF_0 : W1.cell? ⟨w.heap.size, 0, none⟩ = some ((.int .i64 f.q)) := blk_cell BF.out 0
  have o_BF_1 : W1.cell? ⟨w.heap.size, 1, none⟩ = some ((.int .i64 f.k)) := blk_cell BF.out 1
  have o_BF_2 : W1.cell? ⟨w.heap.size, 2, none⟩ = some ((.bool f.u)) := blk_cell BF.out 2
  have o_BF_3 : W1.cell? ⟨w.heap.size, 3, none⟩ = some ((.slice a m c)) := blk_cell BF.out 3
  have o_BF_4 : W1.cell? ⟨w.heap.size, 4, none⟩ = some ((.int .u64 (f.t : Int))) := blk_cell BF.out 4
  have hcall := Encode_any f (fun b => b < w.heap.size) a c W1 HN.out HF.out (by rw [HM.out]; exact HX.out)
  rw [HM.out, HEN.out] at hcall
  have HC := hid hcall
  clear hcall
  go_wp2_with fail
  refine (HC.out).mono ?_
  rintro e U1 ⟨a1, n1, c1, rfl, hn1, ho, hk⟩
  clear HC
  clear o_BF_0 o_BF_1 o_BF_2 o_BF_3 o_BF_4
  have HN' : Hd (NibR U1) := hid (HN.out.keep hk (fun _ _ _ h => h))
  have HX' : Hd (Sl (fun b => b < w.heap.size) U1 (.slice a m c) (u8s f.b)) := hid (HX.out.keep hk (fun _ _ _ h => h))
  have BF' : Hd (Blk U1 w.heap.size #[(.int .i64 f.q), (.int .i64 f.k), (.bool f.u), (.slice a m c), (.int .u64 (f.t : Int))] 25) := hid (blk_keep BF.out hk (fun h => h))
  clear HN HX BF
  have HN := HN'
  clear HN'
  have HX := HX'
  clear HX'
  have BF := BF'
  clear BF'
  have HK' : Hd (Keeps (fun _ => False) w U1) := hid (HK.out.trans hk)
  clear HK
  have HK := HK'
  clear HK'
  have z_U1 := hk.size
  clear hk
  have SE := hid (row_sl ho.row hn1.symm)
  clear hn1 ho
  have hk0 : f.k < 0 ∨ 0 ≤ f.k := by omega
  have hm0 : 512 < m ∨ m ≤ 512 := by omega
  rcases hm0 with hm0 | hm0
  · rcases hk0 with hk0 | hk0
    · have q1 : (512 : Int) < (m : Int) := by omega
      have HD : Hd (decM en = (nilF, 5)) := hid (by rw [HE.out]; simp [hk0])
      go_wp2_with fail
      refine (Decode_any en _ _ _ HN.out SE.out HET.out HEL.out).mono ?_
      rw [HD.out]
      unfold DecR
      rintro e U2 ⟨a2, c2, rfl, hs, hk⟩
      simp only [nilF, List.length_nil]
      have HN' : Hd (NibR U2) := hid (HN.out.keep hk (fun _ _ _ h => h))
      have HX' : Hd (Sl (fun b => b < w.heap.size) U2 (.slice a m c) (u8s f.b)) := hid (HX.out.keep hk (fun _ _ _ h => h))
      have BF' : Hd (Blk U2 w.heap.size #[(.int .i64 f.q), (.int .i64 f.k), (.bool f.u), (.slice a m c), (.int .u64 (f.t : Int))] 25) := hid (blk_keep BF.out hk (fun h => h))
      clear HN HX BF
      have HN := HN'
      clear HN'
      have HX := HX'
      clear HX'
      have BF := BF'
      clear BF'
      have HK' : Hd (Keeps (fun _ => False) w U2) := hid (HK.out.trans hk)
      clear HK
      have HK := HK'
      clear HK'
      have z_U2 := hk.size
      clear hk
      clear hs
      go_upto_region 2 with fail
      generalize hW : World.alloc U2 _ = W2
      have KS : Hd (Keeps (fun _ => False) U2 W2) := hid (by rw [← hW]; exact (Keeps.alloc (Keeps.refl (fun _ => False) U2) _))
      have HN' : Hd (NibR W2) := hid (HN.out.keep KS.out (fun _ _ _ h => h))
      have HX' : Hd (Sl (fun b => b < w.heap.size) W2 (.slice a m c) (u8s f.b)) := hid (HX.out.keep KS.out (fun _ _ _ h => h))
      have BF' : Hd (Blk W2 w.heap.size #[(.int .i64 f.q), (.int .i64 f.k), (.bool f.u), (.slice a m c), (.int .u64 (f.t : Int))] 25) := hid (by rw [← hW]; exact (blk_alloc BF.out _))
      have B3 : Hd (Blk W2 U2.heap.size #[(.int .i64 0), (.int .i64 0), (.bool false), (.slice a2 0 c2), (.int .u64 0)] 25) := hid (by rw [← hW]; exact (blk_new _ _ _))
      clear HN HX BF
      have HN := HN'
      clear HN'
      have HX := HX'
      clear HX'
      have BF := BF'
      clear BF'
      have HK' : Hd (Keeps (fun _ => False) w W2) := hid (HK.out.trans KS.out)
      clear HK
      have HK := HK'
      clear HK'
      have z_W2 : U2.heap.size + 1 ≤ W2.heap.size := by rw [← hW]; simp
      clear hW KS
      have o_BF_0 : W2.cell? ⟨w.heap.size, 0, none⟩ = some ((.int .i64 f.q)) := blk_cell BF.out 0
      have o_BF_1 : W2.cell? ⟨w.heap.size, 1, none⟩ = some ((.int .i64 f.k)) := blk_cell BF.out 1
      have o_BF_2 : W2.cell? ⟨w.heap.size, 2, none⟩ = some ((.bool f.u)) := blk_cell BF.out 2
      have o_BF_3 : W2.cell? ⟨w.heap.size, 3, none⟩ = some ((.slice a m c)) := blk_cell BF.out 3
      have o_BF_4 : W2.cell? ⟨w.heap.size, 4, none⟩ = some ((.int .u64 (f.t : Int))) := blk_cell BF.out 4
      have q5 : ((5 : Int) == 2) = false := by decide
      go_wp2_with fail
      refine (lives_any _ HN.out).mono ?_
      rintro e Z ⟨rfl, hk⟩
      clear o_BF_0 o_BF_1 o_BF_2 o_BF_3 o_BF_4
      have HN' : Hd (NibR Z) := hid (HN.out.keep hk (fun _ _ _ h => h))
      have HX' : Hd (Sl (fun b => b < w.heap.size) Z (.slice a m c) (u8s f.b)) := hid (HX.out.keep hk (fun _ _ _ h => h))
      have BF' : Hd (Blk Z w.heap.size #[(.int .i64 f.q), (.int .i64 f.k), (.bool f.u), (.slice a m c), (.int .u64 (f.t : Int))] 25) := hid (blk_keep BF.out hk (fun h => h))
      have B3' : Hd (Blk Z U2.heap.size #[(.int .i64 0), (.int .i64 0), (.bool false), (.slice a2 0 c2), (.int .u64 0)] 25) := hid (blk_keep B3.out hk (fun h => h))
      clear HN HX BF B3
      have HN := HN'
      clear HN'
      have HX := HX'
      clear HX'
      have BF := BF'
      clear BF'
      have B3 := B3'
      clear B3'
      have HK' : Hd (Keeps (fun _ => False) w Z) := hid (HK.out.trans hk)
      clear HK
      have HK := HK'
      clear HK'
      have z_Z := hk.size
      clear hk
      go_wp2
      go_ret
      exact ⟨rfl, HK.out⟩
    · have q1 : (512 : Int) < (m : Int) := by omega
      have q3 : ¬ (f.k < 0) := by omega
      have HD : Hd (decM en = (nilF, 2)) := hid (by rw [HE.out]; simp [q3, hm0])
      go_wp2_with fail
      refine (Decode_any en _ _ _ HN.out SE.out HET.out HEL.out).mono ?_
      rw [HD.out]
      unfold DecR
      rintro e U2 ⟨a2, c2, rfl, hs, hk⟩
      simp only [nilF, List.length_nil]
      have HN' : Hd (NibR U2) := hid (HN.out.keep hk (fun _ _ _ h => h))
      have HX' : Hd (Sl (fun b => b < w.heap.size) U2 (.slice a m c) (u8s f.b)) := hid (HX.out.keep hk (fun _ _ _ h => h))
      have BF' : Hd (Blk U2 w.heap.size #[(.int .i64 f.q), (.int .i64 f.k), (.bool f.u), (.slice a m c), (.int .u64 (f.t : Int))] 25) := hid (blk_keep BF.out hk (fun h => h))
      clear HN HX BF
      have HN := HN'
      clear HN'
      have HX := HX'
      clear HX'
      have BF := BF'
      clear BF'
      have HK' : Hd (Keeps (fun _ => False) w U2) := hid (HK.out.trans hk)
      clear HK
      have HK := HK'
      clear HK'
      have z_U2 := hk.size
      clear hk
      clear hs
      go_upto_region 2 with fail
      generalize hW : World.alloc U2 _ = W2
      have KS : Hd (Keeps (fun _ => False) U2 W2) := hid (by rw [← hW]; exact (Keeps.alloc (Keeps.refl (fun _ => False) U2) _))
      have HN' : Hd (NibR W2) := hid (HN.out.keep KS.out (fun _ _ _ h => h))
      have HX' : Hd (Sl (fun b => b < w.heap.size) W2 (.slice a m c) (u8s f.b)) := hid (HX.out.keep KS.out (fun _ _ _ h => h))
      have BF' : Hd (Blk W2 w.heap.size #[(.int .i64 f.q), (.int .i64 f.k), (.bool f.u), (.slice a m c), (.int .u64 (f.t : Int))] 25) := hid (by rw [← hW]; exact (blk_alloc BF.out _))
      have B3 : Hd (Blk W2 U2.heap.size #[(.int .i64 0), (.int .i64 0), (.bool false), (.slice a2 0 c2), (.int .u64 0)] 25) := hid (by rw [← hW]; exact (blk_new _ _ _))
      clear HN HX BF
      have HN := HN'
      clear HN'
      have HX := HX'
      clear HX'
      have BF := BF'
      clear BF'
      have HK' : Hd (Keeps (fun _ => False) w W2) := hid (HK.out.trans KS.out)
      clear HK
      have HK := HK'
      clear HK'
      have z_W2 : U2.heap.size + 1 ≤ W2.heap.size := by rw [← hW]; simp
      clear hW KS
      have o_BF_0 : W2.cell? ⟨w.heap.size, 0, none⟩ = some ((.int .i64 f.q)) := blk_cell BF.out 0
      have o_BF_1 : W2.cell? ⟨w.heap.size, 1, none⟩ = some ((.int .i64 f.k)) := blk_cell BF.out 1
      have o_BF_2 : W2.cell? ⟨w.heap.size, 2, none⟩ = some ((.bool f.u)) := blk_cell BF.out 2
      have o_BF_3 : W2.cell? ⟨w.heap.size, 3, none⟩ = some ((.slice a m c)) := blk_cell BF.out 3
      have o_BF_4 : W2.cell? ⟨w.heap.size, 4, none⟩ = some ((.int .u64 (f.t : Int))) := blk_cell BF.out 4
      go_wp2_with fail
      refine (lives_any _ HN.out).mono ?_
      rintro e Z ⟨rfl, hk⟩
      clear o_BF_0 o_BF_1 o_BF_2 o_BF_3 o_BF_4
      have HN' : Hd (NibR Z) := hid (HN.out.keep hk (fun _ _ _ h => h))
      have HX' : Hd (Sl (fun b => b < w.heap.size) Z (.slice a m c) (u8s f.b)) := hid (HX.out.keep hk (fun _ _ _ h => h))
      have BF' : Hd (Blk Z w.heap.size #[(.int .i64 f.q), (.int .i64 f.k), (.bool f.u), (.slice a m c), (.int .u64 (f.t : Int))] 25) := hid (blk_keep BF.out hk (fun h => h))
      have B3' : Hd (Blk Z U2.heap.size #[(.int .i64 0), (.int .i64 0), (.bool false), (.slice a2 0 c2), (.int .u64 0)] 25) := hid (blk_keep B3.out hk (fun h => h))
      clear HN HX BF B3
      have HN := HN'
      clear HN'
      have HX := HX'
      clear HX'
      have BF := BF'
      clear BF'
      have B3 := B3'
      clear B3'
      have HK' : Hd (Keeps (fun _ => False) w Z) := hid (HK.out.trans hk)
      clear HK
      have HK := HK'
      clear HK'
      have z_Z := hk.size
      clear hk
      go_wp2
      go_ret
      exact ⟨rfl, HK.out⟩
  · rcases hk0 with hk0 | hk0
    · have q1 : ¬ ((512 : Int) < (m : Int)) := by omega
      have q2 : ¬ (512 < m) := by omega
      have HD : Hd (decM en = (nilF, 5)) := hid (by rw [HE.out]; simp [hk0])
      go_wp2_with fail
      refine (Decode_any en _ _ _ HN.out SE.out HET.out HEL.out).mono ?_
      rw [HD.out]
      unfold DecR
      rintro e U2 ⟨a2, c2, rfl, hs, hk⟩
      simp only [nilF, List.length_nil]
      have HN' : Hd (NibR U2) := hid (HN.out.keep hk (fun _ _ _ h => h))
      have HX' : Hd (Sl (fun b => b < w.heap.size) U2 (.slice a m c) (u8s f.b)) := hid (HX.out.keep hk (fun _ _ _ h => h))
      have BF' : Hd (Blk U2 w.heap.size #[(.int .i64 f.q), (.int .i64 f.k), (.bool f.u), (.slice a m c), (.int .u64 (f.t : Int))] 25) := hid (blk_keep BF.out hk (fun h => h))
      clear HN HX BF
      have HN := HN'
      clear HN'
      have HX := HX'
      clear HX'
      have BF := BF'
      clear BF'
      have HK' : Hd (Keeps (fun _ => False) w U2) := hid (HK.out.trans hk)
      clear HK
      have HK := HK'
      clear HK'
      have z_U2 := hk.size
      clear hk
      clear hs
      go_upto_region 2 with fail
      generalize hW : World.alloc U2 _ = W2
      have KS : Hd (Keeps (fun _ => False) U2 W2) := hid (by rw [← hW]; exact (Keeps.alloc (Keeps.refl (fun _ => False) U2) _))
      have HN' : Hd (NibR W2) := hid (HN.out.keep KS.out (fun _ _ _ h => h))
      have HX' : Hd (Sl (fun b => b < w.heap.size) W2 (.slice a m c) (u8s f.b)) := hid (HX.out.keep KS.out (fun _ _ _ h => h))
      have BF' : Hd (Blk W2 w.heap.size #[(.int .i64 f.q), (.int .i64 f.k), (.bool f.u), (.slice a m c), (.int .u64 (f.t : Int))] 25) := hid (by rw [← hW]; exact (blk_alloc BF.out _))
      have B3 : Hd (Blk W2 U2.heap.size #[(.int .i64 0), (.int .i64 0), (.bool false), (.slice a2 0 c2), (.int .u64 0)] 25) := hid (by rw [← hW]; exact (blk_new _ _ _))
      clear HN HX BF
      have HN := HN'
      clear HN'
      have HX := HX'
      clear HX'
      have BF := BF'
      clear BF'
      have HK' : Hd (Keeps (fun _ => False) w W2) := hid (HK.out.trans KS.out)
      clear HK
      have HK := HK'
      clear HK'
      have z_W2 : U2.heap.size + 1 ≤ W2.heap.size := by rw [← hW]; simp
      clear hW KS
      have o_BF_0 : W2.cell? ⟨w.heap.size, 0, none⟩ = some ((.int .i64 f.q)) := blk_cell BF.out 0
      have o_BF_1 : W2.cell? ⟨w.heap.size, 1, none⟩ = some ((.int .i64 f.k)) := blk_cell BF.out 1
      have o_BF_2 : W2.cell? ⟨w.heap.size, 2, none⟩ = some ((.bool f.u)) := blk_cell BF.out 2
      have o_BF_3 : W2.cell? ⟨w.heap.size, 3, none⟩ = some ((.slice a m c)) := blk_cell BF.out 3
      have o_BF_4 : W2.cell? ⟨w.heap.size, 4, none⟩ = some ((.int .u64 (f.t : Int))) := blk_cell BF.out 4
      go_wp2_with fail
      refine (lives_any _ HN.out).mono ?_
      rintro e Z ⟨rfl, hk⟩
      clear o_BF_0 o_BF_1 o_BF_2 o_BF_3 o_BF_4
      have HN' : Hd (NibR Z) := hid (HN.out.keep hk (fun _ _ _ h => h))
      have HX' : Hd (Sl (fun b => b < w.heap.size) Z (.slice a m c) (u8s f.b)) := hid (HX.out.keep hk (fun _ _ _ h => h))
      have BF' : Hd (Blk Z w.heap.size #[(.int .i64 f.q), (.int .i64 f.k), (.bool f.u), (.slice a m c), (.int .u64 (f.t : Int))] 25) := hid (blk_keep BF.out hk (fun h => h))
      have B3' : Hd (Blk Z U2.heap.size #[(.int .i64 0), (.int .i64 0), (.bool false), (.slice a2 0 c2), (.int .u64 0)] 25) := hid (blk_keep B3.out hk (fun h => h))
      clear HN HX BF B3
      have HN := HN'
      clear HN'
      have HX := HX'
      clear HX'
      have BF := BF'
      clear BF'
      have B3 := B3'
      clear B3'
      have HK' : Hd (Keeps (fun _ => False) w Z) := hid (HK.out.trans hk)
      clear HK
      have HK := HK'
      clear HK'
      have z_Z := hk.size
      clear hk
      go_wp2
      go_ret
      exact ⟨rfl, HK.out⟩
    · have q1 : ¬ ((512 : Int) < (m : Int)) := by omega
      have q2 : ¬ (512 < m) := by omega
      have q3 : ¬ (f.k < 0) := by omega
      have HD : Hd (decM en = (backF f, 0)) := hid (by rw [HE.out]; simp [q3, q2])
      go_wp2_with fail
      refine (Decode_any en _ _ _ HN.out SE.out HET.out HEL.out).mono ?_
      rw [HD.out]
      unfold DecR
      rintro e U2 ⟨a2, c2, rfl, hs, hk⟩
      simp only [backF, HM.out]
      have HN' : Hd (NibR U2) := hid (HN.out.keep hk (fun _ _ _ h => h))
      have HX' : Hd (Sl (fun b => b < w.heap.size) U2 (.slice a m c) (u8s f.b)) := hid (HX.out.keep hk (fun _ _ _ h => h))
      have BF' : Hd (Blk U2 w.heap.size #[(.int .i64 f.q), (.int .i64 f.k), (.bool f.u), (.slice a m c), (.int .u64 (f.t : Int))] 25) := hid (blk_keep BF.out hk (fun h => h))
      clear HN HX BF
      have HN := HN'
      clear HN'
      have HX := HX'
      clear HX'
      have BF := BF'
      clear BF'
      have HK' : Hd (Keeps (fun _ => False) w U2) := hid (HK.out.trans hk)
      clear HK
      have HK := HK'
      clear HK'
      have z_U2 := hk.size
      clear hk
      have S2 : Hd (Sl (fun b => w.heap.size < b) _ (.slice a2 m c2) (u8s f.b)) := hid (by rw [← HM.out]; exact hs.mono (fun b _ h => by omega))
      clear hs
      go_upto_region 2 with fail
      generalize hW : World.alloc U2 _ = W2
      have KS : Hd (Keeps (fun _ => False) U2 W2) := hid (by rw [← hW]; exact (Keeps.alloc (Keeps.refl (fun _ => False) U2) _))
      have HN' : Hd (NibR W2) := hid (HN.out.keep KS.out (fun _ _ _ h => h))
      have HX' : Hd (Sl (fun b => b < w.heap.size) W2 (.slice a m c) (u8s f.b)) := hid (HX.out.keep KS.out (fun _ _ _ h => h))
      have BF' : Hd (Blk W2 w.heap.size #[(.int .i64 f.q), (.int .i64 f.k), (.bool f.u), (.slice a m c), (.int .u64 (f.t : Int))] 25) := hid (by rw [← hW]; exact (blk_alloc BF.out _))
      have S2' : Hd (Sl (fun b => w.heap.size < b) W2 (.slice a2 m c2) (u8s f.b)) := hid (S2.out.keep KS.out (fun _ _ _ h => h))
      have B3 : Hd (Blk W2 U2.heap.size #[(.int .i64 (modN f.q : Nat)), (.int .i64 f.k), (.bool f.u), (.slice a2 m c2), (.int .u64 (f.t : Int))] 25) := hid (by rw [← hW]; exact (blk_new _ _ _))
      clear HN HX BF S2
      have HN := HN'
      clear HN'
      have HX := HX'
      clear HX'
      have BF := BF'
      clear BF'
      have S2 := S2'
      clear S2'
      have HK' : Hd (Keeps (fun _ => False) w W2) := hid (HK.out.trans KS.out)
      clear HK
      have HK := HK'
      clear HK'
      have z_W2 : U2.heap.size + 1 ≤ W2.heap.size := by rw [← hW]; simp
      clear hW KS
      generalize hb_B3 : U2.heap.size = b_B3 at *
      have o_BF_0 : W2.cell? ⟨w.heap.size, 0, none⟩ = some ((.int .i64 f.q)) := blk_cell BF.out 0
      have o_BF_1 : W2.cell? ⟨w.heap.size, 1, none⟩ = some ((.int .i64 f.k)) := blk_cell BF.out 1
      have o_BF_2 : W2.cell? ⟨w.heap.size, 2, none⟩ = some ((.bool f.u)) := blk_cell BF.out 2
      have o_BF_3 : W2.cell? ⟨w.heap.size, 3, none⟩ = some ((.slice a m c)) := blk_cell BF.out 3
      have o_BF_4 : W2.cell? ⟨w.heap.size, 4, none⟩ = some ((.int .u64 (f.t : Int))) := blk_cell BF.out 4
      go_wp2_with fail
      refine (Mod_any f.q _ HF.out.q0 HF.out.q1).mono ?_
      rintro e wx ⟨rfl, rfl⟩
      clear o_BF_0 o_BF_1 o_BF_2 o_BF_3 o_BF_4
      have o_BF_0 : W2.cell? ⟨w.heap.size, 0, none⟩ = some ((.int .i64 f.q)) := blk_cell BF.out 0
      have f_BF_0 : W2.frozen? ⟨w.heap.size, 0, none⟩ = false := blk_free BF.out 0
      go_upto_region 7 with fail
      clear o_BF_0 f_BF_0
      generalize hW : World.setCell W2 _ _ = W3
      have KS : Hd (Keeps (fun b => b = w.heap.size) W2 W3) := hid (by rw [← hW]; exact (Keeps.setCell (S := fun b => b = w.heap.size) (p := ⟨w.heap.size, 0, none⟩) (Keeps.refl (fun b => b = w.heap.size) W2) (.inl rfl) _))
      have HN' : Hd (NibR W3) := hid (HN.out.keep KS.out (fun b h1 h2 h3 => by omega))
      have HX' : Hd (Sl (fun b => b < w.heap.size) W3 (.slice a m c) (u8s f.b)) := hid (HX.out.keep KS.out (fun b _ h1 h2 => by omega))
      have BF' : Hd (Blk W3 w.heap.size #[(.int .i64 (modN f.q : Nat)), (.int .i64 f.k), (.bool f.u), (.slice a m c), (.int .u64 (f.t : Int))] 25) := hid (by rw [← hW]; exact (blk_set BF.out 0 _))
      have S2' : Hd (Sl (fun b => w.heap.size < b) W3 (.slice a2 m c2) (u8s f.b)) := hid (S2.out.keep KS.out (fun b _ h1 h2 => by omega))
      have B3' : Hd (Blk W3 b_B3 #[(.int .i64 (modN f.q : Nat)), (.int .i64 f.k), (.bool f.u), (.slice a2 m c2), (.int .u64 (f.t : Int))] 25) := hid (by rw [← hW]; exact (blk_other B3.out (by omega) _ _))
      clear HN HX BF S2 B3
      have HN := HN'
      clear HN'
      have HX := HX'
      clear HX'
      have BF := BF'
      clear BF'
      have S2 := S2'
      clear S2'
      have B3 := B3'
      clear B3'
      have HK' : Hd (Keeps (fun _ => False) w W3) := hid (HK.out.trans' KS.out (fun i hi h => by omega))
      clear HK
      have HK := HK'
      clear HK'
      have z_W3 : W2.heap.size + 0 ≤ W3.heap.size := by rw [← hW]; simp
      clear hW KS
      have o_BF_0 : W3.cell? ⟨w.heap.size, 0, none⟩ = some ((.int .i64 (modN f.q : Nat))) := blk_cell BF.out 0
      have o_BF_1 : W3.cell? ⟨w.heap.size, 1, none⟩ = some ((.int .i64 f.k)) := blk_cell BF.out 1
      have o_BF_2 : W3.cell? ⟨w.heap.size, 2, none⟩ = some ((.bool f.u)) := blk_cell BF.out 2
      have o_BF_3 : W3.cell? ⟨w.heap.size, 3, none⟩ = some ((.slice a m c)) := blk_cell BF.out 3
      have o_BF_4 : W3.cell? ⟨w.heap.size, 4, none⟩ = some ((.int .u64 (f.t : Int))) := blk_cell BF.out 4
      have o_B3_0 : W3.cell? ⟨b_B3, 0, none⟩ = some ((.int .i64 (modN f.q : Nat))) := blk_cell B3.out 0
      have o_B3_1 : W3.cell? ⟨b_B3, 1, none⟩ = some ((.int .i64 f.k)) := blk_cell B3.out 1
      have o_B3_2 : W3.cell? ⟨b_B3, 2, none⟩ = some ((.bool f.u)) := blk_cell B3.out 2
      have o_B3_3 : W3.cell? ⟨b_B3, 3, none⟩ = some ((.slice a2 m c2)) := blk_cell B3.out 3
      have o_B3_4 : W3.cell? ⟨b_B3, 4, none⟩ = some ((.int .u64 (f.t : Int))) := blk_cell B3.out 4
      have hcall := SameFrame_true (backF f) a2 a c2 c (fun b => w.heap.size < b) (fun b => b < w.heap.size) W3 (by show Sl _ _ (.slice a2 f.b.length c2) _; rw [HM.out]; exact S2.out) (by show Sl _ _ (.slice a f.b.length c) _; rw [HM.out]; exact HX.out) HB.out
      simp only [backF, HM.out] at hcall
      have HC := hid hcall
      clear hcall
      go_wp2_with fail
      refine (HC.out).mono ?_
      rintro e Y ⟨rfl, hk⟩
      clear HC
      clear o_BF_0 o_BF_1 o_BF_2 o_BF_3 o_BF_4 o_B3_0 o_B3_1 o_B3_2 o_B3_3 o_B3_4
      have HN' : Hd (NibR Y) := hid (HN.out.keep hk (fun _ _ _ h => h))
      have HX' : Hd (Sl (fun b => b < w.heap.size) Y (.slice a m c) (u8s f.b)) := hid (HX.out.keep hk (fun _ _ _ h => h))
      have BF' : Hd (Blk Y w.heap.size #[(.int .i64 (modN f.q : Nat)), (.int .i64 f.k), (.bool f.u), (.slice a m c), (.int .u64 (f.t : Int))] 25) := hid (blk_keep BF.out hk (fun h => h))
      have S2' : Hd (Sl (fun b => w.heap.size < b) Y (.slice a2 m c2) (u8s f.b)) := hid (S2.out.keep hk (fun _ _ _ h => h))
      have B3' : Hd (Blk Y b_B3 #[(.int .i64 (modN f.q : Nat)), (.int .i64 f.k), (.bool f.u), (.slice a2 m c2), (.int .u64 (f.t : Int))] 25) := hid (blk_keep B3.out hk (fun h => h))
      clear HN HX BF S2 B3
      have HN := HN'
      clear HN'
      have HX := HX'
      clear HX'
      have BF := BF'
      clear BF'
      have S2 := S2'
      clear S2'
      have B3 := B3'
      clear B3'
      have HK' : Hd (Keeps (fun _ => False) w Y) := hid (HK.out.trans hk)
      clear HK
      have HK := HK'
      clear HK'
      have z_Y := hk.size
      clear hk
      go_wp2_with fail
      refine (lives_any _ HN.out).mono ?_
      rintro e Z ⟨rfl, hk⟩
      have HN' : Hd (NibR Z) := hid (HN.out.keep hk (fun _ _ _ h => h))
      have HX' : Hd (Sl (fun b => b < w.heap.size) Z (.slice a m c) (u8s f.b)) := hid (HX.out.keep hk (fun _ _ _ h => h))
      have BF' : Hd (Blk Z w.heap.size #[(.int .i64 (modN f.q : Nat)), (.int .i64 f.k), (.bool f.u), (.slice a m c), (.int .u64 (f.t : Int))] 25) := hid (blk_keep BF.out hk (fun h => h))
      have S2' : Hd (Sl (fun b => w.heap.size < b) Z (.slice a2 m c2) (u8s f.b)) := hid (S2.out.keep hk (fun _ _ _ h => h))
      have B3' : Hd (Blk Z b_B3 #[(.int .i64 (modN f.q : Nat)), (.int .i64 f.k), (.bool f.u), (.slice a2 m c2), (.int .u64 (f.t : Int))] 25) := hid (blk_keep B3.out hk (fun h => h))
      clear HN HX BF S2 B3
      have HN := HN'
      clear HN'
      have HX := HX'
      clear HX'
      have BF := BF'
      clear BF'
      have S2 := S2'
      clear S2'
      have B3 := B3'
      clear B3'
      have HK' : Hd (Keeps (fun _ => False) w Z) := hid (HK.out.trans hk)
      clear HK
      have HK := HK'
      clear HK'
      have z_Z := hk.size
      clear hk
      go_wp2
      go_ret
      exact ⟨rfl, HK.out⟩
end Go.Proofs.YthoikljmokkchaaDoor
