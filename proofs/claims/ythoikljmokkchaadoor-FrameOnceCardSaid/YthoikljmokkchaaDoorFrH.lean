/- Frame: the sender's acts. -/
import Derived.Test.YthoikljmokkchaaDoorFrG
namespace Go.Proofs.YthoikljmokkchaaDoor
open Go.RowKit
theorem fin4 {w W : World} {b : Nat} {T : TypeId} {c0 c1 c2 c3 : Value} (hk : Keeps (fun _ => False) w W) (hb : w.heap.size ≤ b) (hB : Blk W b #[c0, c1, c2, c3] T) (u0 u1 u2 u3 : Value) :
    Keeps (fun _ => False) w ((((W.setCell ⟨b, 0, none⟩ u0).setCell ⟨b, 1, none⟩ u1).setCell ⟨b, 2, none⟩ u2).setCell ⟨b, 3, none⟩ u3) ∧
    Blk ((((W.setCell ⟨b, 0, none⟩ u0).setCell ⟨b, 1, none⟩ u1).setCell ⟨b, 2, none⟩ u2).setCell ⟨b, 3, none⟩ u3) b #[u0, u1, u2, u3] T := by
  have h := blk_set (blk_set (blk_set (blk_set hB 0 u0) 1 u1) 2 u2) 3 u3
  simp only [List.setIfInBounds_toArray, List.set_cons_zero, List.set_cons_succ] at h
  exact ⟨(((hk.setCell (.inr hb) _).setCell (.inr hb) _).setCell (.inr hb) _).setCell (.inr hb) _, h⟩
theorem keep4 (w : World) (b : Nat) (u0 u1 u2 u3 : Value) : Keeps (fun i => i = b) w ((((w.setCell ⟨b, 0, none⟩ u0).setCell ⟨b, 1, none⟩ u1).setCell ⟨b, 2, none⟩ u2).setCell ⟨b, 3, none⟩ u3) :=
  keq (keq (keq (keq (Keeps.refl _ _) _ _) _ _) _ _) _ _
theorem bdp_lt {KD : Nat → Prop} {B : Nat} {w : World} {v : Value} {l : List (List Nat)} (h : BdP KD B w v l) : ∀ b, v.ownBlock = some b → b < w.heap.size := fun b hb => by
  obtain ⟨xs, hO, _⟩ := h
  rcases hO.1.2 with ⟨h, _⟩ | ⟨g, cap, cur, h, _, h3, _⟩
  · rw [h] at hb; simp [Value.ownBlock] at hb
  · rw [h] at hb; injection hb with hb; subst hb; exact (Array.getElem?_eq_some_iff.1 h3).1
structure Sd where
  bs : List (List Nat)
  a : Int
  l : Ld
structure Sd.ok (s : Sd) : Prop where
  n : s.bs.length ≤ 100000
  b : ∀ x ∈ s.bs, x.length ≤ 512 ∧ ∀ c ∈ x, c < 256
  a0 : 0 ≤ s.a
  a1 : s.a ≤ s.bs.length
  l : s.l.ok
theorem NewSender_any (k : Nat) (w : World) : Calls Tryd.prog 35 #[.int .u64 (k : Int)] w fun e w' => e = .returned (.agg #[(.slice none 0 0), (.int .i64 0), (.int .u64 (k : Int)), (.int .i64 0)]) ∧ Keeps (fun _ => False) w w' := by
  go_enter Tryd.func35, Tryd.ntmps35
  go_upto_region 1 with fail
  generalize hW : World.alloc w _ = W1
  have KS : Hd (Keeps (fun _ => False) w W1) := hid (by rw [← hW]; exact (Keeps.alloc (Keeps.refl (fun _ => False) w) _))
  have BR : Hd (Blk W1 w.heap.size #[(.slice none 0 0), (.int .i64 0), (.int .u64 0), (.int .i64 0)] 57) := hid (by rw [← hW]; exact (blk_new _ _ _))
  have HK : Hd (Keeps (fun _ => False) w W1) := hid KS.out
  have z_W1 : w.heap.size + 1 ≤ W1.heap.size := by rw [← hW]; simp
  clear hW KS
  go_wp2_with fail
  refine (LNew_any k _).mono ?_
  rintro e W2 ⟨rfl, hk⟩
  have BR' : Hd (Blk W2 w.heap.size #[(.slice none 0 0), (.int .i64 0), (.int .u64 0), (.int .i64 0)] 57) := hid (blk_keep BR.out hk (fun h => h))
  clear BR
  have BR := BR'
  clear BR'
  have HK' : Hd (Keeps (fun _ => False) w W2) := hid (HK.out.trans hk)
  clear HK
  have HK := HK'
  clear HK'
  have z_W2 := hk.size
  clear hk
  have o_BR_0 : W2.cell? ⟨w.heap.size, 0, none⟩ = some ((.slice none 0 0)) := blk_cell BR.out 0
  have o_BR_1 : W2.cell? ⟨w.heap.size, 1, none⟩ = some ((.int .i64 0)) := blk_cell BR.out 1
  have o_BR_2 : W2.cell? ⟨w.heap.size, 2, none⟩ = some ((.int .u64 0)) := blk_cell BR.out 2
  have o_BR_3 : W2.cell? ⟨w.heap.size, 3, none⟩ = some ((.int .i64 0)) := blk_cell BR.out 3
  have f_BR_0 : W2.frozen? ⟨w.heap.size, 0, none⟩ = false := blk_free BR.out 0
  have f_BR_1 : W2.frozen? ⟨w.heap.size, 1, none⟩ = false := blk_free BR.out 1
  have f_BR_2 : W2.frozen? ⟨w.heap.size, 2, none⟩ = false := blk_free BR.out 2
  have f_BR_3 : W2.frozen? ⟨w.heap.size, 3, none⟩ = false := blk_free BR.out 3
  go_wp2
  clear o_BR_0 o_BR_1 o_BR_2 o_BR_3 f_BR_0 f_BR_1 f_BR_2 f_BR_3
  obtain ⟨HV2, B3⟩ := fin4 HK.out (show w.heap.size ≤ w.heap.size by omega) BR.out (.slice none 0 0) (.int .i64 0) (.int .u64 (k : Int)) (.int .i64 0)
  have r0 := blk_cell B3 0
  have r1 := blk_cell B3 1
  have r2 := blk_cell B3 2
  have r3 := blk_cell B3 3
  refine bodyPost_ret (v := .agg #[(.slice none 0 0), (.int .i64 0), (.int .u64 (k : Int)), (.int .i64 0)]) (by simp [results, Tryd.results35, go_sem, r0, r1, r2, r3]) rfl ?_
  exact ⟨rfl, HV2⟩
theorem fin5 {w W : World} {b : Nat} {T : TypeId} {c0 c1 c2 c3 c4 : Value} (hk : Keeps (fun _ => False) w W) (hb : w.heap.size ≤ b) (hB : Blk W b #[c0, c1, c2, c3, c4] T) (u0 u1 u2 u3 u4 : Value) :
    Keeps (fun _ => False) w (((((W.setCell ⟨b, 0, none⟩ u0).setCell ⟨b, 1, none⟩ u1).setCell ⟨b, 2, none⟩ u2).setCell ⟨b, 3, none⟩ u3).setCell ⟨b, 4, none⟩ u4) ∧
    Blk (((((W.setCell ⟨b, 0, none⟩ u0).setCell ⟨b, 1, none⟩ u1).setCell ⟨b, 2, none⟩ u2).setCell ⟨b, 3, none⟩ u3).setCell ⟨b, 4, none⟩ u4) b #[u0, u1, u2, u3, u4] T := by
  have h := blk_set (blk_set (blk_set (blk_set (blk_set hB 0 u0) 1 u1) 2 u2) 3 u3) 4 u4
  simp only [List.setIfInBounds_toArray, List.set_cons_zero, List.set_cons_succ] at h
  exact ⟨((((hk.setCell (.inr hb) _).setCell (.inr hb) _).setCell (.inr hb) _).setCell (.inr hb) _).setCell (.inr hb) _, h⟩
theorem keep5 (w : World) (b : Nat) (u0 u1 u2 u3 u4 : Value) : Keeps (fun i => i = b) w (((((w.setCell ⟨b, 0, none⟩ u0).setCell ⟨b, 1, none⟩ u1).setCell ⟨b, 2, none⟩ u2).setCell ⟨b, 3, none⟩ u3).setCell ⟨b, 4, none⟩ u4) :=
  keq (keq (keq (keq (keq (Keeps.refl _ _) _ _) _ _) _ _) _ _) _ _
theorem NewReceiver_any (k : Nat) (w : World) : Calls Tryd.prog 19 #[.int .u64 (k : Int)] w fun e w' => e = .returned (.agg #[(.int .i64 0), (.slice none 0 0), (.bool false), (.int .u64 (k : Int)), (.int .i64 0)]) ∧ Keeps (fun _ => False) w w' := by
  go_enter Tryd.func19, Tryd.ntmps19
  go_upto_region 1 with fail
  generalize hW : World.alloc w _ = W1
  have KS : Hd (Keeps (fun _ => False) w W1) := hid (by rw [← hW]; exact (Keeps.alloc (Keeps.refl (fun _ => False) w) _))
  have BR : Hd (Blk W1 w.heap.size #[(.int .i64 0), (.slice none 0 0), (.bool false), (.int .u64 0), (.int .i64 0)] 35) := hid (by rw [← hW]; exact (blk_new _ _ _))
  have HK : Hd (Keeps (fun _ => False) w W1) := hid KS.out
  have z_W1 : w.heap.size + 1 ≤ W1.heap.size := by rw [← hW]; simp
  clear hW KS
  go_wp2_with fail
  refine (LNew_any k _).mono ?_
  rintro e W2 ⟨rfl, hk⟩
  have BR' : Hd (Blk W2 w.heap.size #[(.int .i64 0), (.slice none 0 0), (.bool false), (.int .u64 0), (.int .i64 0)] 35) := hid (blk_keep BR.out hk (fun h => h))
  clear BR
  have BR := BR'
  clear BR'
  have HK' : Hd (Keeps (fun _ => False) w W2) := hid (HK.out.trans hk)
  clear HK
  have HK := HK'
  clear HK'
  have z_W2 := hk.size
  clear hk
  have o_BR_0 : W2.cell? ⟨w.heap.size, 0, none⟩ = some ((.int .i64 0)) := blk_cell BR.out 0
  have o_BR_1 : W2.cell? ⟨w.heap.size, 1, none⟩ = some ((.slice none 0 0)) := blk_cell BR.out 1
  have o_BR_2 : W2.cell? ⟨w.heap.size, 2, none⟩ = some ((.bool false)) := blk_cell BR.out 2
  have o_BR_3 : W2.cell? ⟨w.heap.size, 3, none⟩ = some ((.int .u64 0)) := blk_cell BR.out 3
  have o_BR_4 : W2.cell? ⟨w.heap.size, 4, none⟩ = some ((.int .i64 0)) := blk_cell BR.out 4
  have f_BR_0 : W2.frozen? ⟨w.heap.size, 0, none⟩ = false := blk_free BR.out 0
  have f_BR_1 : W2.frozen? ⟨w.heap.size, 1, none⟩ = false := blk_free BR.out 1
  have f_BR_2 : W2.frozen? ⟨w.heap.size, 2, none⟩ = false := blk_free BR.out 2
  have f_BR_3 : W2.frozen? ⟨w.heap.size, 3, none⟩ = false := blk_free BR.out 3
  have f_BR_4 : W2.frozen? ⟨w.heap.size, 4, none⟩ = false := blk_free BR.out 4
  go_wp2
  clear o_BR_0 o_BR_1 o_BR_2 o_BR_3 o_BR_4 f_BR_0 f_BR_1 f_BR_2 f_BR_3 f_BR_4
  obtain ⟨HV2, B3⟩ := fin5 HK.out (show w.heap.size ≤ w.heap.size by omega) BR.out (.int .i64 0) (.slice none 0 0) (.bool false) (.int .u64 (k : Int)) (.int .i64 0)
  have r0 := blk_cell B3 0
  have r1 := blk_cell B3 1
  have r2 := blk_cell B3 2
  have r3 := blk_cell B3 3
  have r4 := blk_cell B3 4
  refine bodyPost_ret (v := .agg #[(.int .i64 0), (.slice none 0 0), (.bool false), (.int .u64 (k : Int)), (.int .i64 0)]) (by simp [results, Tryd.results19, go_sem, r0, r1, r2, r3, r4]) rfl ?_
  exact ⟨rfl, HV2⟩
set_option maxRecDepth 100000 in set_option maxHeartbeats 1000000 in
theorem Queue_no (ba : Option Addr) (bn bc : Nat) (ac : Int) (k : Nat) (i : Int) (body : List Nat) (a : Option Addr) (c : Nat) (w : World) (hb : 512 < body.length) :
    Calls Tryd.prog 32 #[.agg #[.slice ba bn bc, .int .i64 ac, .int .u64 (k : Int), .int .i64 i], .slice a body.length c] w fun e w' => e = .returned (.tuple #[.agg #[.slice none 0 0, .int .i64 0, .int .u64 0, .int .i64 0], .int .i64 2]) ∧ Keeps (fun _ => False) w w' := by
  have q0 : (512 : Int) < body.length := by omega
  generalize body.length = n at *
  go_enter Tryd.func32, Tryd.ntmps32
  go_upto_region 1 with fail
  generalize hW : World.alloc (World.alloc w _) _ = W1
  have KS : Hd (Keeps (fun _ => False) w W1) := hid (by rw [← hW]; exact (Keeps.alloc (Keeps.alloc (Keeps.refl (fun _ => False) w) _) _))
  have BS : Hd (Blk W1 w.heap.size #[(.slice ba bn bc), (.int .i64 ac), (.int .u64 (k : Int)), (.int .i64 i)] 57) := hid (by rw [← hW]; exact (blk_alloc (blk_new _ _ _) _))
  have BR : Hd (Blk W1 (w.heap.size + 1) #[(.slice none 0 0), (.int .i64 0), (.int .u64 0), (.int .i64 0)] 57) := hid (by rw [← hW]; exact (blk_new' _ _ _ _ (by simp)))
  have HK : Hd (Keeps (fun _ => False) w W1) := hid KS.out
  have z_W1 : w.heap.size + 2 ≤ W1.heap.size := by rw [← hW]; simp
  clear hW KS
  have o_BR_0 : W1.cell? ⟨w.heap.size + 1, 0, none⟩ = some ((.slice none 0 0)) := blk_cell BR.out 0
  have o_BR_1 : W1.cell? ⟨w.heap.size + 1, 1, none⟩ = some ((.int .i64 0)) := blk_cell BR.out 1
  have o_BR_2 : W1.cell? ⟨w.heap.size + 1, 2, none⟩ = some ((.int .u64 0)) := blk_cell BR.out 2
  have o_BR_3 : W1.cell? ⟨w.heap.size + 1, 3, none⟩ = some ((.int .i64 0)) := blk_cell BR.out 3
  have f_BR_0 : W1.frozen? ⟨w.heap.size + 1, 0, none⟩ = false := blk_free BR.out 0
  have f_BR_1 : W1.frozen? ⟨w.heap.size + 1, 1, none⟩ = false := blk_free BR.out 1
  have f_BR_2 : W1.frozen? ⟨w.heap.size + 1, 2, none⟩ = false := blk_free BR.out 2
  have f_BR_3 : W1.frozen? ⟨w.heap.size + 1, 3, none⟩ = false := blk_free BR.out 3
  go_wp2
  clear o_BR_0 o_BR_1 o_BR_2 o_BR_3 f_BR_0 f_BR_1 f_BR_2 f_BR_3
  obtain ⟨HV2, B3⟩ := fin4 HK.out (show w.heap.size ≤ w.heap.size + 1 by omega) BR.out (.slice none 0 0) (.int .i64 0) (.int .u64 0) (.int .i64 0)
  have r0 := blk_cell B3 0
  have r1 := blk_cell B3 1
  have r2 := blk_cell B3 2
  have r3 := blk_cell B3 3
  refine bodyPost_ret (v := .tuple #[.agg #[(.slice none 0 0), (.int .i64 0), (.int .u64 0), (.int .i64 0)], .int .i64 2]) (by simp [results, Tryd.results32, go_sem, r0, r1, r2, r3]) rfl ?_
  exact ⟨rfl, HV2⟩
set_option maxRecDepth 100000 in set_option maxHeartbeats 1000000 in
theorem Queue_ok (bs : List (List Nat)) (ba : Option Addr) (bc : Nat) (ac : Int) (k : Nat) (i : Int) (body : List Nat) (K K2 : Nat → Prop) (a : Option Addr) (c : Nat) (w : World) (hv : Bds K w (.slice ba bs.length bc) bs) (hn : bs.length ≤ 100000) (hx : ∀ x ∈ bs, x.length ≤ 512) (hb : body.length ≤ 512) (hs : Sl K2 w (.slice a body.length c) (u8s body)) :
    Calls Tryd.prog 32 #[.agg #[.slice ba bs.length bc, .int .i64 ac, .int .u64 (k : Int), .int .i64 i], .slice a body.length c] w fun e w' => ∃ a2 c2, e = .returned (.tuple #[.agg #[.slice a2 (bs.length + 1) c2, .int .i64 ac, .int .u64 (k : Int), .int .i64 i], .int .i64 0]) ∧ Bds (fun b => w.heap.size ≤ b) w' (.slice a2 (bs.length + 1) c2) (bs ++ [body]) ∧ Keeps (fun _ => False) w w' := by
  obtain ⟨i0, hi, hz0, hz1, hz2⟩ := parts1 infoBd
  have HV := hid (hv.mono (K' := fun b => b < w.heap.size) (fun b h _ => h)); have HX := hid hx
  have HS := hid (hs.mono (K' := fun b => b < w.heap.size) (fun b h _ => h))
  clear hv hx hs
  obtain ⟨n, hnn⟩ : ∃ n, bs.length = n := ⟨_, rfl⟩
  have HN := hid hnn
  rw [hnn] at HV hn ⊢
  clear hnn
  obtain ⟨m, hm⟩ : ∃ m, body.length = m := ⟨_, rfl⟩
  have HM := hid hm
  rw [hm] at HS hb ⊢
  clear hm
  have q0 : ¬ ((512 : Int) < m) := by omega
  go_enter Tryd.func32, Tryd.ntmps32
  go_upto_region 1 with fail
  generalize hW : World.alloc (World.alloc w _) _ = W1
  have KS : Hd (Keeps (fun _ => False) w W1) := hid (by rw [← hW]; exact (Keeps.alloc (Keeps.alloc (Keeps.refl (fun _ => False) w) _) _))
  have HV' : Hd (Bds (fun b => b < w.heap.size) W1 (.slice ba n bc) bs) := hid (HV.out.keep KS.out (fun _ _ _ h => h))
  have HS' : Hd (Sl (fun b => b < w.heap.size) W1 (.slice a m c) (u8s body)) := hid (HS.out.keep KS.out (fun _ _ _ h => h))
  have BS : Hd (Blk W1 w.heap.size #[(.slice ba n bc), (.int .i64 ac), (.int .u64 (k : Int)), (.int .i64 i)] 57) := hid (by rw [← hW]; exact (blk_alloc (blk_new _ _ _) _))
  have BR : Hd (Blk W1 (w.heap.size + 1) #[(.slice none 0 0), (.int .i64 0), (.int .u64 0), (.int .i64 0)] 57) := hid (by rw [← hW]; exact (blk_new' _ _ _ _ (by simp)))
  clear HV HS
  have HV := HV'
  clear HV'
  have HS := HS'
  clear HS'
  have HK : Hd (Keeps (fun _ => False) w W1) := hid KS.out
  have z_W1 : w.heap.size + 2 ≤ W1.heap.size := by rw [← hW]; simp
  clear hW KS
  have o_BS_0 : W1.cell? ⟨w.heap.size, 0, none⟩ = some ((.slice ba n bc)) := blk_cell BS.out 0
  go_wp2_with fail
  refine (cloned_any _ _ bs _ HV.out (by rw [HN.out]; omega) (fun x hx => by have := HX.out x hx; omega)).mono ?_
  rw [HN.out]
  rintro e W2 ⟨a2, c2, rfl, hp, hk⟩
  have HP := hid hp
  have HPL := hid hp
  clear hp
  clear o_BS_0
  have HV' : Hd (Bds (fun b => b < w.heap.size) W2 (.slice ba n bc) bs) := hid (HV.out.keep hk (fun _ _ _ h => h))
  have HS' : Hd (Sl (fun b => b < w.heap.size) W2 (.slice a m c) (u8s body)) := hid (HS.out.keep hk (fun _ _ _ h => h))
  have BS' : Hd (Blk W2 w.heap.size #[(.slice ba n bc), (.int .i64 ac), (.int .u64 (k : Int)), (.int .i64 i)] 57) := hid (blk_keep BS.out hk (fun h => h))
  have BR' : Hd (Blk W2 (w.heap.size + 1) #[(.slice none 0 0), (.int .i64 0), (.int .u64 0), (.int .i64 0)] 57) := hid (blk_keep BR.out hk (fun h => h))
  clear HV HS BS BR
  have HV := HV'
  clear HV'
  have HS := HS'
  clear HS'
  have BS := BS'
  clear BS'
  have BR := BR'
  clear BR'
  have HK' : Hd (Keeps (fun _ => False) w W2) := hid (HK.out.trans hk)
  clear HK
  have HK := HK'
  clear HK'
  have z_W2 := hk.size
  clear hk
  go_wp2_with fail
  refine (Wi.CloneB_any _ _ body _ HS.out (by rw [HM.out]; omega)).mono ?_
  rintro e W3 ⟨a4, n4, c4, rfl, hn4, ho4, hk⟩
  have HS4 : Hd (Sl (fun b => W2.heap.size ≤ b) _ (.slice a4 n4 c4) (u8s body)) := hid (row_sl ho4.row hn4.symm)
  clear hn4 ho4
  have HV' : Hd (Bds (fun b => b < w.heap.size) W3 (.slice ba n bc) bs) := hid (HV.out.keep hk (fun _ _ _ h => h))
  have HS' : Hd (Sl (fun b => b < w.heap.size) W3 (.slice a m c) (u8s body)) := hid (HS.out.keep hk (fun _ _ _ h => h))
  have BS' : Hd (Blk W3 w.heap.size #[(.slice ba n bc), (.int .i64 ac), (.int .u64 (k : Int)), (.int .i64 i)] 57) := hid (blk_keep BS.out hk (fun h => h))
  have BR' : Hd (Blk W3 (w.heap.size + 1) #[(.slice none 0 0), (.int .i64 0), (.int .u64 0), (.int .i64 0)] 57) := hid (blk_keep BR.out hk (fun h => h))
  have HP' : Hd (BdP (fun b => W1.heap.size ≤ b) W1.heap.size W3 (.slice a2 n c2) bs) := hid (HP.out.keep hk (fun _ _ _ h => h))
  clear HV HS BS BR HP
  have HV := HV'
  clear HV'
  have HS := HS'
  clear HS'
  have BS := BS'
  clear BS'
  have BR := BR'
  clear BR'
  have HP := HP'
  clear HP'
  have HK' : Hd (Keeps (fun _ => False) w W3) := hid (HK.out.trans hk)
  clear HK
  have HK := HK'
  clear HK'
  have z_W3 := hk.size
  clear hk
  have o_BS_0 : W3.cell? ⟨w.heap.size, 0, none⟩ = some ((.slice ba n bc)) := blk_cell BS.out 0
  have f_BS_0 : W3.frozen? ⟨w.heap.size, 0, none⟩ = false := blk_free BS.out 0
  obtain ⟨xs, hO, hge, hB⟩ := HP.out
  have hltO : ∀ b, (Value.slice a2 n c2).ownBlock = some b → b < W2.heap.size := bdp_lt HPL.out
  rw [HN.out] at hO
  have HOX := hid hO; have HGE := hid hge; have HBX := hid hB; have HLT := hid hltO
  clear hO hge hB hltO
  go_wp2_with (at_builtin; refine wpList_append_row rfl _ _ 43 rfl 22 i0 (.slice none 0 0) 1 24 Tryd.underlying43 hi hz0 hz1 hz2 rfl (by decide) _ (fun _ => True) _ _ _ _ rfl (HOX.out.alloc _) 1 _ rfl (one_src _ _ _) (by intro u hu; simp at hu; subst hu; rfl) ?h1 ?h2 ?_)
  case h1 => simp [maxLen]; omega
  case h2 => omega
  intro a3 c3 w1 hown hgrow; try intro _
  have HO1 : Hd (BdP (fun b => W1.heap.size ≤ b) W1.heap.size w1 (.slice a3 (n + 1) c3) (bs ++ [body])) := hid (by
    refine bdp_append (v := .slice a2 n c2) (ns := [.slice a4 n4 c4]) HGE.out HBX.out (keeps_alloc _ _ (.cells #[.slice a4 n4 c4] 22)) (BdL.one ((HS4.out.keep (keeps_alloc (fun _ => False) _ _) (fun _ _ _ h => h)).mono (fun b _ h => ⟨by omega, fun e => by have := HLT.out b e; omega⟩))) (by simp; omega) ?_ (by first | exact hgrow | exact hgrow.mono (fun _ _ h => h))
    rw [HN.out]
    first | exact hown | simpa using hown)
  have hk : Keeps (fun b => W1.heap.size ≤ b) W3 w1 := ((keeps_alloc _ _ (.cells #[.slice a4 n4 c4] 22)).trans hgrow).mono (fun b _ h => HGE.out b h)
  clear hown hgrow HP HPL HOX HBX HS4
  clear o_BS_0 f_BS_0
  have HV' : Hd (Bds (fun b => b < w.heap.size) w1 (.slice ba n bc) bs) := hid (HV.out.keep hk (fun b h1 h2 h3 => by omega))
  have HS' : Hd (Sl (fun b => b < w.heap.size) w1 (.slice a m c) (u8s body)) := hid (HS.out.keep hk (fun b h1 h2 h3 => by omega))
  have BS' : Hd (Blk w1 w.heap.size #[(.slice ba n bc), (.int .i64 ac), (.int .u64 (k : Int)), (.int .i64 i)] 57) := hid (blk_keep BS.out hk (fun h => by omega))
  have BR' : Hd (Blk w1 (w.heap.size + 1) #[(.slice none 0 0), (.int .i64 0), (.int .u64 0), (.int .i64 0)] 57) := hid (blk_keep BR.out hk (fun h => by omega))
  clear HV HS BS BR
  have HV := HV'
  clear HV'
  have HS := HS'
  clear HS'
  have BS := BS'
  clear BS'
  have BR := BR'
  clear BR'
  have HK' : Hd (Keeps (fun _ => False) w w1) := hid (HK.out.trans' hk (fun i hi h => by omega))
  clear HK
  have HK := HK'
  clear HK'
  have z_w1 := hk.size
  clear hk
  have o_BS_0 : w1.cell? ⟨w.heap.size, 0, none⟩ = some ((.slice ba n bc)) := blk_cell BS.out 0
  have o_BS_1 : w1.cell? ⟨w.heap.size, 1, none⟩ = some ((.int .i64 ac)) := blk_cell BS.out 1
  have o_BS_2 : w1.cell? ⟨w.heap.size, 2, none⟩ = some ((.int .u64 (k : Int))) := blk_cell BS.out 2
  have o_BS_3 : w1.cell? ⟨w.heap.size, 3, none⟩ = some ((.int .i64 i)) := blk_cell BS.out 3
  have f_BS_0 : w1.frozen? ⟨w.heap.size, 0, none⟩ = false := blk_free BS.out 0
  have f_BS_1 : w1.frozen? ⟨w.heap.size, 1, none⟩ = false := blk_free BS.out 1
  have f_BS_2 : w1.frozen? ⟨w.heap.size, 2, none⟩ = false := blk_free BS.out 2
  have f_BS_3 : w1.frozen? ⟨w.heap.size, 3, none⟩ = false := blk_free BS.out 3
  go_upto_region 4 with fail
  clear o_BS_0 o_BS_1 o_BS_2 o_BS_3 f_BS_0 f_BS_1 f_BS_2 f_BS_3
  generalize hW : World.setCell w1 _ _ = W4
  have KS : Hd (Keeps (fun b => b = w.heap.size) w1 W4) := hid (by rw [← hW]; exact (Keeps.setCell (S := fun b => b = w.heap.size) (Keeps.refl (fun b => b = w.heap.size) w1) (.inl rfl) _))
  have HV' : Hd (Bds (fun b => b < w.heap.size) W4 (.slice ba n bc) bs) := hid (HV.out.keep KS.out (fun b _ h1 h2 => by omega))
  have HS' : Hd (Sl (fun b => b < w.heap.size) W4 (.slice a m c) (u8s body)) := hid (HS.out.keep KS.out (fun b _ h1 h2 => by omega))
  have BS' : Hd (Blk W4 w.heap.size #[(.slice a3 (n + 1) c3), (.int .i64 ac), (.int .u64 (k : Int)), (.int .i64 i)] 57) := hid (by rw [← hW]; exact (blk_set BS.out 0 _))
  have BR' : Hd (Blk W4 (w.heap.size + 1) #[(.slice none 0 0), (.int .i64 0), (.int .u64 0), (.int .i64 0)] 57) := hid (by rw [← hW]; exact (blk_other BR.out (by omega) _ _))
  have HO1' : Hd (BdP (fun b => W1.heap.size ≤ b) W1.heap.size W4 (.slice a3 (n + 1) c3) (bs ++ [body])) := hid (HO1.out.keep KS.out (fun b _ h1 h2 => by omega))
  clear HV HS BS BR HO1
  have HV := HV'
  clear HV'
  have HS := HS'
  clear HS'
  have BS := BS'
  clear BS'
  have BR := BR'
  clear BR'
  have HO1 := HO1'
  clear HO1'
  have HK' : Hd (Keeps (fun _ => False) w W4) := hid (HK.out.trans' KS.out (fun i hi h => by omega))
  clear HK
  have HK := HK'
  clear HK'
  have z_W4 : w1.heap.size + 0 ≤ W4.heap.size := by rw [← hW]; simp
  clear hW KS
  have o_BS_0 : W4.cell? ⟨w.heap.size, 0, none⟩ = some ((.slice a3 (n + 1) c3)) := blk_cell BS.out 0
  have o_BS_1 : W4.cell? ⟨w.heap.size, 1, none⟩ = some ((.int .i64 ac)) := blk_cell BS.out 1
  have o_BS_2 : W4.cell? ⟨w.heap.size, 2, none⟩ = some ((.int .u64 (k : Int))) := blk_cell BS.out 2
  have o_BS_3 : W4.cell? ⟨w.heap.size, 3, none⟩ = some ((.int .i64 i)) := blk_cell BS.out 3
  have o_BR_0 : W4.cell? ⟨w.heap.size + 1, 0, none⟩ = some ((.slice none 0 0)) := blk_cell BR.out 0
  have o_BR_1 : W4.cell? ⟨w.heap.size + 1, 1, none⟩ = some ((.int .i64 0)) := blk_cell BR.out 1
  have o_BR_2 : W4.cell? ⟨w.heap.size + 1, 2, none⟩ = some ((.int .u64 0)) := blk_cell BR.out 2
  have o_BR_3 : W4.cell? ⟨w.heap.size + 1, 3, none⟩ = some ((.int .i64 0)) := blk_cell BR.out 3
  have f_BR_0 : W4.frozen? ⟨w.heap.size + 1, 0, none⟩ = false := blk_free BR.out 0
  have f_BR_1 : W4.frozen? ⟨w.heap.size + 1, 1, none⟩ = false := blk_free BR.out 1
  have f_BR_2 : W4.frozen? ⟨w.heap.size + 1, 2, none⟩ = false := blk_free BR.out 2
  have f_BR_3 : W4.frozen? ⟨w.heap.size + 1, 3, none⟩ = false := blk_free BR.out 3
  go_wp2
  clear o_BS_0 o_BS_1 o_BS_2 o_BS_3 o_BR_0 o_BR_1 o_BR_2 o_BR_3 f_BR_0 f_BR_1 f_BR_2 f_BR_3
  obtain ⟨HV2, B3⟩ := fin4 HK.out (show w.heap.size ≤ w.heap.size + 1 by omega) BR.out (.slice a3 (n + 1) c3) (.int .i64 ac) (.int .u64 (k : Int)) (.int .i64 i)
  have r0 := blk_cell B3 0
  have r1 := blk_cell B3 1
  have r2 := blk_cell B3 2
  have r3 := blk_cell B3 3
  refine bodyPost_ret (v := .tuple #[.agg #[(.slice a3 (n + 1) c3), (.int .i64 ac), (.int .u64 (k : Int)), (.int .i64 i)], .int .i64 0]) (by simp [results, Tryd.results32, go_sem, r0, r1, r2, r3]) rfl ?_
  exact ⟨a3, c3, rfl, ((HO1.out.bds.keep (keep4 _ (w.heap.size + 1) (.slice a3 (n + 1) c3) (.int .i64 ac) (.int .u64 (k : Int)) (.int .i64 i)) (fun b h1 h2 h3 => by subst h3; rcases h2 with h2 | h2 <;> omega)).mono (fun b _ h => by rcases h with h | h <;> omega)), HV2⟩
end Go.Proofs.YthoikljmokkchaaDoor
