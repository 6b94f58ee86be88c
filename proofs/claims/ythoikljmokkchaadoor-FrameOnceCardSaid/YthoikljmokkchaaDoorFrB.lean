/- Frame: Accept; the reference's ladders. -/
import Derived.Test.YthoikljmokkchaaDoorFrA
namespace Go.Proofs.YthoikljmokkchaaDoor
open Go.RowKit
def acceptL (l : Ld) (idx : Int) (b : List Nat) (tag : Nat) : Ld × Int := if idx < l.i ∨ l.i + 4096 < idx then (⟨0, 0⟩, 30) else if tagN (iterN (idx - l.i).toNat l.k) b ≠ tag then (⟨0, 0⟩, 8) else (⟨stepN (iterN (idx - l.i).toNat l.k), idx + 1⟩, 0)
theorem accept_key {l : Ld} {idx : Int} (b : List Nat) (tag : Nat) (h : idx < l.i ∨ l.i + 4096 < idx) : acceptL l idx b tag = (⟨0, 0⟩, 30) := by unfold acceptL; rw [if_pos h]
theorem accept_sum {l : Ld} {idx : Int} {b : List Nat} {tag : Nat} (h : ¬ (idx < l.i ∨ l.i + 4096 < idx)) (h2 : tagN (iterN (idx - l.i).toNat l.k) b ≠ tag) : acceptL l idx b tag = (⟨0, 0⟩, 8) := by unfold acceptL; rw [if_neg h, if_pos h2]
theorem accept_ok {l : Ld} {idx : Int} {b : List Nat} {tag : Nat} (h : ¬ (idx < l.i ∨ l.i + 4096 < idx)) (h2 : tagN (iterN (idx - l.i).toNat l.k) b = tag) : acceptL l idx b tag = (⟨stepN (iterN (idx - l.i).toNat l.k), idx + 1⟩, 0) := by unfold acceptL; rw [if_neg h, if_neg (fun hn => hn h2)]
def AccPost (w : World) (r : Ld × Int) (e : Ending) (w' : World) : Prop := e = .returned (.tuple #[.agg #[.int .u64 (r.1.k : Int), .int .i64 r.1.i], .int .i64 r.2]) ∧ Keeps (fun _ => False) w w'
theorem acc_mk {w w' : World} {r r' : Ld × Int} (h : r = r') (hk : Keeps (fun _ => False) w w') : AccPost w r (.returned (.tuple #[.agg #[.int .u64 (r'.1.k : Int), .int .i64 r'.1.i], .int .i64 r'.2])) w' := by subst h; exact ⟨rfl, hk⟩
set_option maxRecDepth 100000 in set_option maxHeartbeats 1000000 in
theorem Accept_any (l : Ld) (idx : Int) (tag : Nat) (K : Nat → Prop) (v : Value) (b : List Nat) (w : World) (hl : l.ok) (hx0 : -9223372036854775808 ≤ idx) (hx1 : idx ≤ 9223372036854775807) (hv : Sl K w v (u8s b)) (hb : ∀ c ∈ b, c < 256) (hm : b.length ≤ 140737488355200) :
    Calls Tryd.prog 67 #[.agg #[.int .u64 (l.k : Int), .int .i64 l.i], .int .i64 idx, v, .int .u64 (tag : Int)] w fun e w' => AccPost w (acceptL l idx b tag) e w' := by
  have A30 := hid (fun h => accept_key (l := l) (idx := idx) b tag h); have A8 := hid (fun h h2 => accept_sum (l := l) (idx := idx) (b := b) (tag := tag) h h2); have A0 := hid (fun h h2 => accept_ok (l := l) (idx := idx) (b := b) (tag := tag) h h2)
  obtain ⟨k, i⟩ := l
  obtain ⟨hk, hi0, hi1⟩ := hl
  simp only [] at hk hi0 hi1 ⊢
  have HKK := hid hk; have HV := hid (hv.mono (K' := fun b => b < w.heap.size) (fun b h _ => h)); have HB := hid hb; have HM := hid hm
  clear hk hv hb hm
  obtain ⟨R, hR⟩ : ∃ R, acceptL ⟨k, i⟩ idx b tag = R := ⟨_, rfl⟩
  rw [hR] at A30 A8 A0 ⊢
  clear hR
  go_enter Tryd.func67, Tryd.ntmps67
  go_upto_region 1 with fail
  generalize hW : World.alloc (World.alloc w _) _ = W1
  have KS : Hd (Keeps (fun _ => False) w W1) := hid (by rw [← hW]; exact (Keeps.alloc (Keeps.alloc (Keeps.refl (fun _ => False) w) _) _))
  have HV' : Hd (Sl (fun b => b < w.heap.size) W1 v (u8s b)) := hid (HV.out.keep KS.out (fun _ _ _ h => h))
  have BL : Hd (Blk W1 w.heap.size #[(.int .u64 (k : Int)), (.int .i64 i)] 33) := hid (by rw [← hW]; exact (blk_alloc (blk_new _ _ _) _))
  have BR : Hd (Blk W1 (w.heap.size + 1) #[(.int .u64 0), (.int .i64 0)] 33) := hid (by rw [← hW]; exact (blk_new' _ _ _ _ (by simp)))
  clear HV
  have HV := HV'
  clear HV'
  have HK : Hd (Keeps (fun _ => False) w W1) := hid KS.out
  have z_W1 : w.heap.size + 2 ≤ W1.heap.size := by rw [← hW]; simp
  clear hW KS
  by_cases h1 : idx < i
  · have d1 : decide (idx < i) = true := by simp; exact h1
    have o_BL_0 : W1.cell? ⟨w.heap.size, 0, none⟩ = some ((.int .u64 (k : Int))) := blk_cell BL.out 0
    have o_BL_1 : W1.cell? ⟨w.heap.size, 1, none⟩ = some ((.int .i64 i)) := blk_cell BL.out 1
    have o_BR_0 : W1.cell? ⟨w.heap.size + 1, 0, none⟩ = some ((.int .u64 0)) := blk_cell BR.out 0
    have o_BR_1 : W1.cell? ⟨w.heap.size + 1, 1, none⟩ = some ((.int .i64 0)) := blk_cell BR.out 1
    have f_BR_0 : W1.frozen? ⟨w.heap.size + 1, 0, none⟩ = false := blk_free BR.out 0
    have f_BR_1 : W1.frozen? ⟨w.heap.size + 1, 1, none⟩ = false := blk_free BR.out 1
    go_wp2
    clear o_BL_0 o_BL_1 o_BR_0 o_BR_1 f_BR_0 f_BR_1
    obtain ⟨HV2, B3⟩ := fin2 HK.out (show w.heap.size ≤ w.heap.size + 1 by omega) BR.out (.int .u64 0) (.int .i64 0)
    have r0 := blk_cell B3 0
    have r1 := blk_cell B3 1
    refine bodyPost_ret (v := .tuple #[.agg #[(.int .u64 0), (.int .i64 0)], .int .i64 30]) (by simp [results, Tryd.results67, go_sem, r0, r1]) rfl ?_
    exact acc_mk (A30.out (.inl h1)) HV2
  · have d1 : decide (idx < i) = false := by simp; omega
    have hw1 : IntKind.i64.wrap (i + 4096) = i + 4096 := IntWalk.i64_in _ (by omega)
    by_cases h2 : i + 4096 < idx
    · have d2 : decide (i + 4096 < idx) = true := by simp; exact h2
      have o_BL_0 : W1.cell? ⟨w.heap.size, 0, none⟩ = some ((.int .u64 (k : Int))) := blk_cell BL.out 0
      have o_BL_1 : W1.cell? ⟨w.heap.size, 1, none⟩ = some ((.int .i64 i)) := blk_cell BL.out 1
      have o_BR_0 : W1.cell? ⟨w.heap.size + 1, 0, none⟩ = some ((.int .u64 0)) := blk_cell BR.out 0
      have o_BR_1 : W1.cell? ⟨w.heap.size + 1, 1, none⟩ = some ((.int .i64 0)) := blk_cell BR.out 1
      have f_BR_0 : W1.frozen? ⟨w.heap.size + 1, 0, none⟩ = false := blk_free BR.out 0
      have f_BR_1 : W1.frozen? ⟨w.heap.size + 1, 1, none⟩ = false := blk_free BR.out 1
      go_wp2
      clear o_BL_0 o_BL_1 o_BR_0 o_BR_1 f_BR_0 f_BR_1
      obtain ⟨HV2, B3⟩ := fin2 HK.out (show w.heap.size ≤ w.heap.size + 1 by omega) BR.out (.int .u64 0) (.int .i64 0)
      have r0 := blk_cell B3 0
      have r1 := blk_cell B3 1
      refine bodyPost_ret (v := .tuple #[.agg #[(.int .u64 0), (.int .i64 0)], .int .i64 30]) (by simp [results, Tryd.results67, go_sem, r0, r1]) rfl ?_
      exact acc_mk (A30.out (.inr h2)) HV2
    · have d2 : decide (i + 4096 < idx) = false := by simp; omega
      have HNN : Hd (¬ (idx < i ∨ i + 4096 < idx)) := hid (by omega)
      obtain ⟨n, hn⟩ : ∃ n : Nat, idx - i = (n : Int) := ⟨(idx - i).toNat, by omega⟩
      have hn2 : n ≤ 4096 := by omega
      have HNI : Hd (idx = i + (n : Int)) := hid (by omega)
      have HTN : Hd ((idx - i).toNat = n) := hid (by omega)
      have hw2 : IntKind.i64.wrap (idx - i) = (n : Int) := by rw [hn]; exact IntWalk.i64_in _ (by omega)
      clear hn
      obtain ⟨x, hx⟩ : ∃ x, iterN n k = x := ⟨_, rfl⟩
      have HX := hid hx
      have HXL : Hd (x < 18446744073709551616) := hid (by rw [← hx]; exact iterN_lt HKK.out n)
      clear hx
      have o_BL_0 : W1.cell? ⟨w.heap.size, 0, none⟩ = some ((.int .u64 (k : Int))) := blk_cell BL.out 0
      have o_BL_1 : W1.cell? ⟨w.heap.size, 1, none⟩ = some ((.int .i64 i)) := blk_cell BL.out 1
      have f_BL_0 : W1.frozen? ⟨w.heap.size, 0, none⟩ = false := blk_free BL.out 0
      have f_BL_1 : W1.frozen? ⟨w.heap.size, 1, none⟩ = false := blk_free BL.out 1
      go_wp2_with fail
      try rw [hw2]
      refine (after_any k i n _ HKK.out hi0 (by omega) (by omega)).mono ?_
      rw [HX.out, ← HNI.out]
      rintro e W2 ⟨rfl, hk⟩
      clear hw1 hw2 d1 d2
      clear o_BL_0 o_BL_1 f_BL_0 f_BL_1
      have HV' : Hd (Sl (fun b => b < w.heap.size) W2 v (u8s b)) := hid (HV.out.keep hk (fun _ _ _ h => h))
      have BL' : Hd (Blk W2 w.heap.size #[(.int .u64 (k : Int)), (.int .i64 i)] 33) := hid (blk_keep BL.out hk (fun h => h))
      have BR' : Hd (Blk W2 (w.heap.size + 1) #[(.int .u64 0), (.int .i64 0)] 33) := hid (blk_keep BR.out hk (fun h => h))
      clear HV BL BR
      have HV := HV'
      clear HV'
      have BL := BL'
      clear BL'
      have BR := BR'
      clear BR'
      have HK' : Hd (Keeps (fun _ => False) w W2) := hid (HK.out.trans hk)
      clear HK
      have HK := HK'
      clear HK'
      have z_W2 := hk.size
      clear hk
      have o_BL_0 : W2.cell? ⟨w.heap.size, 0, none⟩ = some ((.int .u64 (k : Int))) := blk_cell BL.out 0
      have o_BL_1 : W2.cell? ⟨w.heap.size, 1, none⟩ = some ((.int .i64 i)) := blk_cell BL.out 1
      have f_BL_0 : W2.frozen? ⟨w.heap.size, 0, none⟩ = false := blk_free BL.out 0
      have f_BL_1 : W2.frozen? ⟨w.heap.size, 1, none⟩ = false := blk_free BL.out 1
      go_upto_region 4 with fail
      clear o_BL_0 o_BL_1 f_BL_0 f_BL_1
      generalize hW : World.setCell (World.setCell W2 _ _) _ _ = W3
      have KS : Hd (Keeps (fun b => b = w.heap.size) W2 W3) := hid (by rw [← hW]; exact (Keeps.setCell (S := fun b => b = w.heap.size) (Keeps.setCell (S := fun b => b = w.heap.size) (Keeps.refl (fun b => b = w.heap.size) W2) (.inl rfl) _) (.inl rfl) _))
      have HV' : Hd (Sl (fun b => b < w.heap.size) W3 v (u8s b)) := hid (HV.out.keep KS.out (fun b _ h1 h2 => by omega))
      have BL' : Hd (Blk W3 w.heap.size #[(.int .u64 (x : Int)), (.int .i64 idx)] 33) := hid (by rw [← hW]; exact (blk_set (blk_set BL.out 0 _) 1 _))
      have BR' : Hd (Blk W3 (w.heap.size + 1) #[(.int .u64 0), (.int .i64 0)] 33) := hid (by rw [← hW]; exact (blk_other (blk_other BR.out (by omega) _ _) (by omega) _ _))
      clear HV BL BR
      have HV := HV'
      clear HV'
      have BL := BL'
      clear BL'
      have BR := BR'
      clear BR'
      have HK' : Hd (Keeps (fun _ => False) w W3) := hid (HK.out.trans' KS.out (fun i hi h => by omega))
      clear HK
      have HK := HK'
      clear HK'
      have z_W3 : W2.heap.size + 0 ≤ W3.heap.size := by rw [← hW]; simp
      clear hW KS
      have o_BL_0 : W3.cell? ⟨w.heap.size, 0, none⟩ = some ((.int .u64 (x : Int))) := blk_cell BL.out 0
      have o_BL_1 : W3.cell? ⟨w.heap.size, 1, none⟩ = some ((.int .i64 idx)) := blk_cell BL.out 1
      obtain ⟨t, ht⟩ : ∃ t, tagN x b = t := ⟨_, rfl⟩
      have HT := hid ht
      clear ht
      go_wp2_with fail
      refine (Tag_any _ x _ b _ HXL.out HV.out HB.out HM.out).mono ?_
      rw [HT.out]
      rintro e W4 ⟨rfl, hk⟩
      clear o_BL_0 o_BL_1
      have HV' : Hd (Sl (fun b => b < w.heap.size) W4 v (u8s b)) := hid (HV.out.keep hk (fun _ _ _ h => h))
      have BL' : Hd (Blk W4 w.heap.size #[(.int .u64 (x : Int)), (.int .i64 idx)] 33) := hid (blk_keep BL.out hk (fun h => h))
      have BR' : Hd (Blk W4 (w.heap.size + 1) #[(.int .u64 0), (.int .i64 0)] 33) := hid (blk_keep BR.out hk (fun h => h))
      clear HV BL BR
      have HV := HV'
      clear HV'
      have BL := BL'
      clear BL'
      have BR := BR'
      clear BR'
      have HK' : Hd (Keeps (fun _ => False) w W4) := hid (HK.out.trans hk)
      clear HK
      have HK := HK'
      clear HK'
      have z_W4 := hk.size
      clear hk
      by_cases h3 : t = tag
      · have d3 : ((t : Int) != (tag : Int)) = false := by simp; omega
        have d3b : ((tag : Int) != (t : Int)) = false := by simp; omega
        have HA := hid (A0.out HNN.out (by rw [HTN.out, HX.out, HT.out]; exact h3))
        clear A0 A8 A30 h3
        have o_BL_0 : W4.cell? ⟨w.heap.size, 0, none⟩ = some ((.int .u64 (x : Int))) := blk_cell BL.out 0
        have o_BL_1 : W4.cell? ⟨w.heap.size, 1, none⟩ = some ((.int .i64 idx)) := blk_cell BL.out 1
        go_wp2_with fail
        refine (after_any x idx 1 _ HXL.out (by omega) (by omega) (by omega)).mono ?_
        rintro e W5 ⟨rfl, hk⟩
        clear o_BL_0 o_BL_1
        have HV' : Hd (Sl (fun b => b < w.heap.size) W5 v (u8s b)) := hid (HV.out.keep hk (fun _ _ _ h => h))
        have BL' : Hd (Blk W5 w.heap.size #[(.int .u64 (x : Int)), (.int .i64 idx)] 33) := hid (blk_keep BL.out hk (fun h => h))
        have BR' : Hd (Blk W5 (w.heap.size + 1) #[(.int .u64 0), (.int .i64 0)] 33) := hid (blk_keep BR.out hk (fun h => h))
        clear HV BL BR
        have HV := HV'
        clear HV'
        have BL := BL'
        clear BL'
        have BR := BR'
        clear BR'
        have HK' : Hd (Keeps (fun _ => False) w W5) := hid (HK.out.trans hk)
        clear HK
        have HK := HK'
        clear HK'
        have z_W5 := hk.size
        clear hk
        have o_BR_0 : W5.cell? ⟨w.heap.size + 1, 0, none⟩ = some ((.int .u64 0)) := blk_cell BR.out 0
        have o_BR_1 : W5.cell? ⟨w.heap.size + 1, 1, none⟩ = some ((.int .i64 0)) := blk_cell BR.out 1
        have f_BR_0 : W5.frozen? ⟨w.heap.size + 1, 0, none⟩ = false := blk_free BR.out 0
        have f_BR_1 : W5.frozen? ⟨w.heap.size + 1, 1, none⟩ = false := blk_free BR.out 1
        obtain ⟨y, hy⟩ : ∃ y, (iterN 1 x) = y := ⟨_, rfl⟩
        rw [hy]
        have HY : Hd (stepN x = y) := hid hy
        clear hy
        go_wp2
        clear o_BR_0 o_BR_1 f_BR_0 f_BR_1
        obtain ⟨HV2, B3⟩ := fin2 HK.out (show w.heap.size ≤ w.heap.size + 1 by omega) BR.out (.int .u64 (y : Int)) (.int .i64 (idx + 1))
        have r0 := blk_cell B3 0
        have r1 := blk_cell B3 1
        refine bodyPost_ret (v := .tuple #[.agg #[(.int .u64 (y : Int)), (.int .i64 (idx + 1))], .int .i64 0]) (by simp [results, Tryd.results67, go_sem, r0, r1]) rfl ?_
        exact acc_mk (r' := (⟨y, idx + 1⟩, 0)) (by rw [HA.out, HTN.out, HX.out, HY.out]) HV2
      · have d3 : ((t : Int) != (tag : Int)) = true := by simp; omega
        have d3b : ((tag : Int) != (t : Int)) = true := by simp; omega
        have HA := hid (A8.out HNN.out (by rw [HTN.out, HX.out, HT.out]; exact h3))
        clear A0 A8 A30
        have o_BR_0 : W4.cell? ⟨w.heap.size + 1, 0, none⟩ = some ((.int .u64 0)) := blk_cell BR.out 0
        have o_BR_1 : W4.cell? ⟨w.heap.size + 1, 1, none⟩ = some ((.int .i64 0)) := blk_cell BR.out 1
        have f_BR_0 : W4.frozen? ⟨w.heap.size + 1, 0, none⟩ = false := blk_free BR.out 0
        have f_BR_1 : W4.frozen? ⟨w.heap.size + 1, 1, none⟩ = false := blk_free BR.out 1
        go_wp2
        clear o_BR_0 o_BR_1 f_BR_0 f_BR_1
        obtain ⟨HV2, B3⟩ := fin2 HK.out (show w.heap.size ≤ w.heap.size + 1 by omega) BR.out (.int .u64 0) (.int .i64 0)
        have r0 := blk_cell B3 0
        have r1 := blk_cell B3 1
        refine bodyPost_ret (v := .tuple #[.agg #[(.int .u64 0), (.int .i64 0)], .int .i64 8]) (by simp [results, Tryd.results67, go_sem, r0, r1]) rfl ?_
        exact acc_mk (HA.out) HV2
set_option maxRecDepth 100000 in set_option maxHeartbeats 1000000 in
theorem RKey_any (k n : Nat) (w : World) (hk : k < 18446744073709551616) (hn : n ≤ 1000000000000) :
    Calls Tryd.prog 106 #[.int .u64 (k : Int), .int .i64 (n : Int)] w fun e w' => e = .returned (.int .u64 (iterN n k : Nat)) ∧ w = w' := by
  have HKK := hid hk
  clear hk
  go_enter Tryd.func106, Tryd.ntmps106
  go_wp2_with fail
  go_loop [5, 6] (fun kv iv => ∃ j : Nat, kv = .int .u64 ((iterN j k : Nat) : Int) ∧ iv = .int .i64 (j : Int) ∧ j ≤ n) (fun _ iv => n - (intOf iv).toNat)
  case atStart => exact ⟨0, rfl, rfl, Nat.zero_le _⟩
  case round =>
    obtain ⟨j, rfl, rfl, hj⟩ := hrel
    by_cases hlt : j < n
    · have q1 : (j : Int) < n := by omega
      have q2 : (0 : Int) ≤ j := by omega
      have HL := hid (iterN_lt HKK.out j)
      have HS : Hd (iterN (j + 1) k = stepN (iterN j k)) := hid rfl
      generalize iterN j k = x at *
      go_wp2_with fail
      refine (RStep_any x HL.out _).mono ?_
      rintro e w1 ⟨rfl, rfl⟩
      rw [← HS.out]
      obtain ⟨y, hy⟩ : ∃ y, iterN (j + 1) k = y := ⟨_, rfl⟩
      rw [hy]
      have HY := hid hy
      clear hy
      go_wp2
      go_round
      case rel => exact ⟨j + 1, by rw [HY.out], by go_num, by omega⟩
      case measure => simp [intOf]; omega
    · have hjn : j = n := by omega
      have q1 : ¬ ((j : Int) < n) := by omega
      subst hjn
      obtain ⟨x, hx⟩ : ∃ x, iterN j k = x := ⟨_, rfl⟩
      rw [hx]
      have HX := hid hx
      clear hx
      go_wp2
      go_ret
      exact ⟨by rw [HX.out]; rfl, rfl⟩
set_option maxRecDepth 100000 in set_option maxHeartbeats 1000000 in
theorem RLSign_any (l : Ld) (K : Nat → Prop) (v : Value) (b : List Nat) (w : World) (hl : l.ok) (hv : Sl K w v (u8s b)) (hb : ∀ c ∈ b, c < 256) (hm : b.length ≤ 140737488355200) :
    Calls Tryd.prog 77 #[.agg #[.int .u64 (l.k : Int), .int .i64 l.i], v] w fun e w' => e = .returned (.tuple #[.int .u64 (tagN l.k b : Nat), .agg #[.int .u64 (stepN l.k : Nat), .int .i64 (l.i + 1)]]) ∧ Keeps (fun _ => False) w w' := by
  obtain ⟨k, i⟩ := l
  obtain ⟨hk, hi0, hi1⟩ := hl
  simp only [] at hk hi0 hi1 ⊢
  have HKK := hid hk; have HV := hid (hv.mono (K' := fun b => b < w.heap.size) (fun b h _ => h)); have HB := hid hb; have HM := hid hm
  clear hk hv hb hm
  obtain ⟨t, ht⟩ : ∃ t, tagN k b = t := ⟨_, rfl⟩
  rw [ht]
  have HT := hid ht
  clear ht
  obtain ⟨s, hs⟩ : ∃ s, stepN k = s := ⟨_, rfl⟩
  rw [hs]
  have HS : Hd (stepN k = s) := hid hs
  clear hs
  have hw : IntKind.i64.wrap (i + 1) = i + 1 := IntWalk.i64_in _ (by omega)
  go_enter Tryd.func77, Tryd.ntmps77
  go_upto_region 1 with fail
  generalize hW : World.alloc (World.alloc w _) _ = W1
  have KS : Hd (Keeps (fun _ => False) w W1) := hid (by rw [← hW]; exact (Keeps.alloc (Keeps.alloc (Keeps.refl (fun _ => False) w) _) _))
  have HV' : Hd (Sl (fun b => b < w.heap.size) W1 v (u8s b)) := hid (HV.out.keep KS.out (fun _ _ _ h => h))
  have BL : Hd (Blk W1 w.heap.size #[(.int .u64 (k : Int)), (.int .i64 i)] 33) := hid (by rw [← hW]; exact (blk_alloc (blk_new _ _ _) _))
  have BR : Hd (Blk W1 (w.heap.size + 1) #[(.int .u64 0), (.int .i64 0)] 33) := hid (by rw [← hW]; exact (blk_new' _ _ _ _ (by simp)))
  clear HV
  have HV := HV'
  clear HV'
  have HK : Hd (Keeps (fun _ => False) w W1) := hid KS.out
  have z_W1 : w.heap.size + 2 ≤ W1.heap.size := by rw [← hW]; simp
  clear hW KS
  go_cut [4] from 6 to 16 (fun u4 wx => u4 = .int .u64 (t : Int) ∧ Hd (Blk wx (w.heap.size + 1) #[(.int .u64 (s : Int)), (.int .i64 (i + 1))] 33) ∧ Hd (Keeps (fun b => b = w.heap.size + 1) W1 wx))
  case first =>
    have KC : Hd (Keeps (fun _ => False) W1 W1) := hid (Keeps.refl _ _)
    have HSS : Hd (∀ w', Keeps (fun b => b = w.heap.size + 1) W1 w' → (w'.cell? ⟨w.heap.size, 0, none⟩ = some ((.int .u64 (k : Int))) ∧ w'.cell? ⟨w.heap.size, 1, none⟩ = some ((.int .i64 i)))) := hid (fun w' hk => ⟨blk_cell (blk_keep BL.out hk (fun h => by omega)) 0, blk_cell (blk_keep BL.out hk (fun h => by omega)) 1⟩)
    have HTA : Hd (∀ X, Keeps (fun _ => False) W1 X → Calls Tryd.prog 107 #[.int .u64 (k : Int), v] X fun e w' => e = .returned (.int .u64 (t : Int)) ∧ Keeps (fun _ => False) X w') := hid (fun X hx => by have h := RTag_any _ k _ b X HKK.out (HV.out.keep hx (fun _ _ _ h => h)) HB.out HM.out; rw [HT.out] at h; exact h)
    have HAF : Hd (∀ X, Calls Tryd.prog 108 #[.int .u64 (k : Int)] X fun e w' => e = .returned (.int .u64 (s : Int)) ∧ Keeps (fun _ => False) X w') := hid (fun X => by have h := RStep_any k HKK.out X; rw [HS.out] at h; exact h.mono (fun e w' h => ⟨h.1, by rw [← h.2]; exact Keeps.refl _ _⟩))
    have sF_BR_0 : W1.cell? ⟨(w.heap.size + 1), 0, none⟩ = some ((.int .u64 0)) := blk_cell (blk_keep BR.out KC.out (fun h => h)) 0
    have sG_BR_0 : W1.frozen? ⟨(w.heap.size + 1), 0, none⟩ = false := blk_free (blk_keep BR.out KC.out (fun h => h)) 0
    have sF_BR_1 : W1.cell? ⟨(w.heap.size + 1), 1, none⟩ = some ((.int .i64 0)) := blk_cell (blk_keep BR.out KC.out (fun h => h)) 1
    have sG_BR_1 : W1.frozen? ⟨(w.heap.size + 1), 1, none⟩ = false := blk_free (blk_keep BR.out KC.out (fun h => h)) 1
    go_region_held (fun w' => w'.cell? ⟨w.heap.size, 0, none⟩ = some ((.int .u64 (k : Int))) ∧ w'.cell? ⟨w.heap.size, 1, none⟩ = some ((.int .i64 i))) (exact HSS.out _ (by repeat (first | exact KC.out.mono (fun _ _ h => h.elim) | (with_reducible exact KC.out) | (with_reducible exact Keeps.refl _ _) | (with_reducible apply Keeps.drewN) | (with_reducible apply Keeps.drew) | (refine Keeps.setCell (S := fun b => b = w.heap.size + 1) ?_ (.inl (by simp)) _))))
      (first
      | (go_at_call 107; (refine (HTA.out _ (by repeat (first | (with_reducible exact KC.out) | (with_reducible exact Keeps.refl _ _) | (with_reducible apply Keeps.drewN) | (with_reducible apply Keeps.drew) | (with_reducible apply Keeps.alloc)))).mono ?_); rintro e wy0 ⟨rfl, hk⟩; have KC2 : Hd (Keeps (fun _ => False) W1 wy0) := hid (Keeps.trans (S := fun _ => False) (by repeat (first | (with_reducible exact KC.out) | (with_reducible exact Keeps.refl _ _) | (with_reducible apply Keeps.drewN) | (with_reducible apply Keeps.drew) | (with_reducible apply Keeps.alloc))) hk); have zc := KC.out.size; have zk := hk.size; (try simp at zk); replace KC := KC2; clear KC2; have sF_BR_0 : wy0.cell? ⟨(w.heap.size + 1), 0, none⟩ = some ((.int .u64 0)) := blk_cell (blk_keep BR.out KC.out (fun h => h)) 0; have sG_BR_0 : wy0.frozen? ⟨(w.heap.size + 1), 0, none⟩ = false := blk_free (blk_keep BR.out KC.out (fun h => h)) 0; have sF_BR_1 : wy0.cell? ⟨(w.heap.size + 1), 1, none⟩ = some ((.int .i64 0)) := blk_cell (blk_keep BR.out KC.out (fun h => h)) 1; have sG_BR_1 : wy0.frozen? ⟨(w.heap.size + 1), 1, none⟩ = false := blk_free (blk_keep BR.out KC.out (fun h => h)) 1; replace hk := hid hk)
      | (go_at_call 108; (refine (HAF.out _).mono ?_); rintro e wy1 ⟨rfl, hk⟩; have KC2 : Hd (Keeps (fun _ => False) W1 wy1) := hid (Keeps.trans (S := fun _ => False) (by repeat (first | (with_reducible exact KC.out) | (with_reducible exact Keeps.refl _ _) | (with_reducible apply Keeps.drewN) | (with_reducible apply Keeps.drew) | (with_reducible apply Keeps.alloc))) hk); have zc := KC.out.size; have zk := hk.size; (try simp at zk); replace KC := KC2; clear KC2; have sF_BR_0 : wy1.cell? ⟨(w.heap.size + 1), 0, none⟩ = some ((.int .u64 0)) := blk_cell (blk_keep BR.out KC.out (fun h => h)) 0; have sG_BR_0 : wy1.frozen? ⟨(w.heap.size + 1), 0, none⟩ = false := blk_free (blk_keep BR.out KC.out (fun h => h)) 0; have sF_BR_1 : wy1.cell? ⟨(w.heap.size + 1), 1, none⟩ = some ((.int .i64 0)) := blk_cell (blk_keep BR.out KC.out (fun h => h)) 1; have sG_BR_1 : wy1.frozen? ⟨(w.heap.size + 1), 1, none⟩ = false := blk_free (blk_keep BR.out KC.out (fun h => h)) 1; replace hk := hid hk))
    all_goals
      go_wp2_with fail
      go_meet
      exact ⟨rfl, hid (by first | exact (show Blk _ (w.heap.size + 1) #[(.int .u64 (s : Int)), (.int .i64 (i + 1))] 33 from blk_set (show Blk _ (w.heap.size + 1) #[(.int .u64 (s : Int)), (.int .i64 0)] 33 from blk_set (show Blk _ (w.heap.size + 1) #[(.int .u64 0), (.int .i64 0)] 33 from by (repeat (first | (with_reducible apply blk_drewN) | (with_reducible apply blk_drew))); exact blk_keep BR.out KC.out (fun h => h)) 0 _) 1 _)), hid (by repeat (first | exact KC.out.mono (fun _ _ h => h.elim) | (with_reducible exact KC.out) | (with_reducible exact Keeps.refl _ _) | (with_reducible apply Keeps.drewN) | (with_reducible apply Keeps.drew) | (refine Keeps.setCell (S := fun b => b = w.heap.size + 1) ?_ (.inl (by simp)) _)))⟩
  case rest =>
    obtain ⟨rfl, N_BR, hk⟩ := hcut
    replace hk := hk.out
    generalize wc = W2 at *
    have HV' : Hd (Sl (fun b => b < w.heap.size) W2 v (u8s b)) := hid (HV.out.keep hk (fun b _ h1 h2 => by omega))
    have BL' : Hd (Blk W2 w.heap.size #[(.int .u64 (k : Int)), (.int .i64 i)] 33) := hid (blk_keep BL.out hk (fun h => by omega))
    clear HV BL
    have HV := HV'
    clear HV'
    have BL := BL'
    clear BL'
    clear BR
    have BR := N_BR
    clear N_BR
    have HK' : Hd (Keeps (fun _ => False) w W2) := hid (HK.out.trans' hk (fun i hi h => by omega))
    clear HK
    have HK := HK'
    clear HK'
    have z_W2 := hk.size
    clear hk
    clear hw
    go_wp2
    have rr_BR_0 := blk_cell BR.out 0
    have rr_BR_1 := blk_cell BR.out 1
    refine bodyPost_ret (v := .tuple #[.int .u64 (t : Int), .agg #[(.int .u64 (s : Int)), (.int .i64 (i + 1))]]) (by simp [results, Tryd.results77, go_sem, rr_BR_0, rr_BR_1]) rfl ?_
    exact ⟨rfl, HK.out⟩
set_option maxRecDepth 100000 in set_option maxHeartbeats 1000000 in
theorem RAccept_any (l : Ld) (idx : Int) (tag : Nat) (K : Nat → Prop) (v : Value) (b : List Nat) (w : World) (hl : l.ok) (hx0 : -9223372036854775808 ≤ idx) (hx1 : idx ≤ 9223372036854775807) (hv : Sl K w v (u8s b)) (hb : ∀ c ∈ b, c < 256) (hm : b.length ≤ 140737488355200) :
    Calls Tryd.prog 71 #[.agg #[.int .u64 (l.k : Int), .int .i64 l.i], .int .i64 idx, v, .int .u64 (tag : Int)] w fun e w' => AccPost w (acceptL l idx b tag) e w' := by
  have A30 := hid (fun h => accept_key (l := l) (idx := idx) b tag h); have A8 := hid (fun h h2 => accept_sum (l := l) (idx := idx) (b := b) (tag := tag) h h2); have A0 := hid (fun h h2 => accept_ok (l := l) (idx := idx) (b := b) (tag := tag) h h2)
  obtain ⟨k, i⟩ := l
  obtain ⟨hk, hi0, hi1⟩ := hl
  simp only [] at hk hi0 hi1 ⊢
  have HKK := hid hk; have HV := hid (hv.mono (K' := fun b => b < w.heap.size) (fun b h _ => h)); have HB := hid hb; have HM := hid hm
  clear hk hv hb hm
  obtain ⟨R, hR⟩ : ∃ R, acceptL ⟨k, i⟩ idx b tag = R := ⟨_, rfl⟩
  rw [hR] at A30 A8 A0 ⊢
  clear hR
  go_enter Tryd.func71, Tryd.ntmps71
  go_upto_region 1 with fail
  generalize hW : World.alloc (World.alloc w _) _ = W1
  have KS : Hd (Keeps (fun _ => False) w W1) := hid (by rw [← hW]; exact (Keeps.alloc (Keeps.alloc (Keeps.refl (fun _ => False) w) _) _))
  have HV' : Hd (Sl (fun b => b < w.heap.size) W1 v (u8s b)) := hid (HV.out.keep KS.out (fun _ _ _ h => h))
  have BL : Hd (Blk W1 w.heap.size #[(.int .u64 (k : Int)), (.int .i64 i)] 33) := hid (by rw [← hW]; exact (blk_alloc (blk_new _ _ _) _))
  have BR : Hd (Blk W1 (w.heap.size + 1) #[(.int .u64 0), (.int .i64 0)] 33) := hid (by rw [← hW]; exact (blk_new' _ _ _ _ (by simp)))
  clear HV
  have HV := HV'
  clear HV'
  have HK : Hd (Keeps (fun _ => False) w W1) := hid KS.out
  have z_W1 : w.heap.size + 2 ≤ W1.heap.size := by rw [← hW]; simp
  clear hW KS
  by_cases h1 : idx < i
  · have d1 : decide (idx < i) = true := by simp; exact h1
    have o_BL_0 : W1.cell? ⟨w.heap.size, 0, none⟩ = some ((.int .u64 (k : Int))) := blk_cell BL.out 0
    have o_BL_1 : W1.cell? ⟨w.heap.size, 1, none⟩ = some ((.int .i64 i)) := blk_cell BL.out 1
    have o_BR_0 : W1.cell? ⟨w.heap.size + 1, 0, none⟩ = some ((.int .u64 0)) := blk_cell BR.out 0
    have o_BR_1 : W1.cell? ⟨w.heap.size + 1, 1, none⟩ = some ((.int .i64 0)) := blk_cell BR.out 1
    have f_BR_0 : W1.frozen? ⟨w.heap.size + 1, 0, none⟩ = false := blk_free BR.out 0
    have f_BR_1 : W1.frozen? ⟨w.heap.size + 1, 1, none⟩ = false := blk_free BR.out 1
    go_wp2
    clear o_BL_0 o_BL_1 o_BR_0 o_BR_1 f_BR_0 f_BR_1
    obtain ⟨HV2, B3⟩ := fin2 HK.out (show w.heap.size ≤ w.heap.size + 1 by omega) BR.out (.int .u64 0) (.int .i64 0)
    have r0 := blk_cell B3 0
    have r1 := blk_cell B3 1
    refine bodyPost_ret (v := .tuple #[.agg #[(.int .u64 0), (.int .i64 0)], .int .i64 30]) (by simp [results, Tryd.results71, go_sem, r0, r1]) rfl ?_
    exact acc_mk (A30.out (.inl h1)) HV2
  · have d1 : decide (idx < i) = false := by simp; omega
    have hw1 : IntKind.i64.wrap (i + 4096) = i + 4096 := IntWalk.i64_in _ (by omega)
    by_cases h2 : i + 4096 < idx
    · have d2 : decide (i + 4096 < idx) = true := by simp; exact h2
      have o_BL_0 : W1.cell? ⟨w.heap.size, 0, none⟩ = some ((.int .u64 (k : Int))) := blk_cell BL.out 0
      have o_BL_1 : W1.cell? ⟨w.heap.size, 1, none⟩ = some ((.int .i64 i)) := blk_cell BL.out 1
      have o_BR_0 : W1.cell? ⟨w.heap.size + 1, 0, none⟩ = some ((.int .u64 0)) := blk_cell BR.out 0
      have o_BR_1 : W1.cell? ⟨w.heap.size + 1, 1, none⟩ = some ((.int .i64 0)) := blk_cell BR.out 1
      have f_BR_0 : W1.frozen? ⟨w.heap.size + 1, 0, none⟩ = false := blk_free BR.out 0
      have f_BR_1 : W1.frozen? ⟨w.heap.size + 1, 1, none⟩ = false := blk_free BR.out 1
      go_wp2
      clear o_BL_0 o_BL_1 o_BR_0 o_BR_1 f_BR_0 f_BR_1
      obtain ⟨HV2, B3⟩ := fin2 HK.out (show w.heap.size ≤ w.heap.size + 1 by omega) BR.out (.int .u64 0) (.int .i64 0)
      have r0 := blk_cell B3 0
      have r1 := blk_cell B3 1
      refine bodyPost_ret (v := .tuple #[.agg #[(.int .u64 0), (.int .i64 0)], .int .i64 30]) (by simp [results, Tryd.results71, go_sem, r0, r1]) rfl ?_
      exact acc_mk (A30.out (.inr h2)) HV2
    · have d2 : decide (i + 4096 < idx) = false := by simp; omega
      have HNN : Hd (¬ (idx < i ∨ i + 4096 < idx)) := hid (by omega)
      obtain ⟨n, hn⟩ : ∃ n : Nat, idx - i = (n : Int) := ⟨(idx - i).toNat, by omega⟩
      have hn2 : n ≤ 4096 := by omega
      have HNI : Hd (idx = i + (n : Int)) := hid (by omega)
      have HTN : Hd ((idx - i).toNat = n) := hid (by omega)
      have hw2 : IntKind.i64.wrap (idx - i) = (n : Int) := by rw [hn]; exact IntWalk.i64_in _ (by omega)
      clear hn
      obtain ⟨x, hx⟩ : ∃ x, iterN n k = x := ⟨_, rfl⟩
      have HX := hid hx
      have HXL : Hd (x < 18446744073709551616) := hid (by rw [← hx]; exact iterN_lt HKK.out n)
      clear hx
      have o_BL_0 : W1.cell? ⟨w.heap.size, 0, none⟩ = some ((.int .u64 (k : Int))) := blk_cell BL.out 0
      have o_BL_1 : W1.cell? ⟨w.heap.size, 1, none⟩ = some ((.int .i64 i)) := blk_cell BL.out 1
      go_wp2_with fail
      try rw [hw2]
      refine (RKey_any k n _ HKK.out (by omega)).mono ?_
      rw [HX.out]
      rintro e wx ⟨rfl, rfl⟩
      clear hw1 hw2 d1 d2
      obtain ⟨t, ht⟩ : ∃ t, tagN x b = t := ⟨_, rfl⟩
      have HT := hid ht
      clear ht
      go_wp2_with fail
      refine (RTag_any _ x _ b _ HXL.out HV.out HB.out HM.out).mono ?_
      rw [HT.out]
      rintro e W2 ⟨rfl, hk⟩
      clear o_BL_0 o_BL_1
      have HV' : Hd (Sl (fun b => b < w.heap.size) W2 v (u8s b)) := hid (HV.out.keep hk (fun _ _ _ h => h))
      have BL' : Hd (Blk W2 w.heap.size #[(.int .u64 (k : Int)), (.int .i64 i)] 33) := hid (blk_keep BL.out hk (fun h => h))
      have BR' : Hd (Blk W2 (w.heap.size + 1) #[(.int .u64 0), (.int .i64 0)] 33) := hid (blk_keep BR.out hk (fun h => h))
      clear HV BL BR
      have HV := HV'
      clear HV'
      have BL := BL'
      clear BL'
      have BR := BR'
      clear BR'
      have HK' : Hd (Keeps (fun _ => False) w W2) := hid (HK.out.trans hk)
      clear HK
      have HK := HK'
      clear HK'
      have z_W2 := hk.size
      clear hk
      by_cases h3 : t = tag
      · have d3 : ((t : Int) != (tag : Int)) = false := by simp; omega
        have d3b : ((tag : Int) != (t : Int)) = false := by simp; omega
        have HA := hid (A0.out HNN.out (by rw [HTN.out, HX.out, HT.out]; exact h3))
        clear A0 A8 A30 h3
        go_wp2_with fail
        refine (RStep_any x HXL.out _).mono ?_
        rintro e wx ⟨rfl, rfl⟩
        have hw3 : IntKind.i64.wrap (idx + 1) = idx + 1 := IntWalk.i64_in _ (by omega)
        have o_BR_0 : W2.cell? ⟨w.heap.size + 1, 0, none⟩ = some ((.int .u64 0)) := blk_cell BR.out 0
        have o_BR_1 : W2.cell? ⟨w.heap.size + 1, 1, none⟩ = some ((.int .i64 0)) := blk_cell BR.out 1
        have f_BR_0 : W2.frozen? ⟨w.heap.size + 1, 0, none⟩ = false := blk_free BR.out 0
        have f_BR_1 : W2.frozen? ⟨w.heap.size + 1, 1, none⟩ = false := blk_free BR.out 1
        obtain ⟨y, hy⟩ : ∃ y, (stepN x) = y := ⟨_, rfl⟩
        rw [hy]
        have HY : Hd (stepN x = y) := hid hy
        clear hy
        go_wp2
        clear o_BR_0 o_BR_1 f_BR_0 f_BR_1
        obtain ⟨HV2, B3⟩ := fin2 HK.out (show w.heap.size ≤ w.heap.size + 1 by omega) BR.out (.int .u64 (y : Int)) (.int .i64 (idx + 1))
        have r0 := blk_cell B3 0
        have r1 := blk_cell B3 1
        refine bodyPost_ret (v := .tuple #[.agg #[(.int .u64 (y : Int)), (.int .i64 (idx + 1))], .int .i64 0]) (by simp [results, Tryd.results71, go_sem, r0, r1]) rfl ?_
        exact acc_mk (r' := (⟨y, idx + 1⟩, 0)) (by rw [HA.out, HTN.out, HX.out, HY.out]) HV2
      · have d3 : ((t : Int) != (tag : Int)) = true := by simp; omega
        have d3b : ((tag : Int) != (t : Int)) = true := by simp; omega
        have HA := hid (A8.out HNN.out (by rw [HTN.out, HX.out, HT.out]; exact h3))
        clear A0 A8 A30
        have o_BR_0 : W2.cell? ⟨w.heap.size + 1, 0, none⟩ = some ((.int .u64 0)) := blk_cell BR.out 0
        have o_BR_1 : W2.cell? ⟨w.heap.size + 1, 1, none⟩ = some ((.int .i64 0)) := blk_cell BR.out 1
        have f_BR_0 : W2.frozen? ⟨w.heap.size + 1, 0, none⟩ = false := blk_free BR.out 0
        have f_BR_1 : W2.frozen? ⟨w.heap.size + 1, 1, none⟩ = false := blk_free BR.out 1
        go_wp2
        clear o_BR_0 o_BR_1 f_BR_0 f_BR_1
        obtain ⟨HV2, B3⟩ := fin2 HK.out (show w.heap.size ≤ w.heap.size + 1 by omega) BR.out (.int .u64 0) (.int .i64 0)
        have r0 := blk_cell B3 0
        have r1 := blk_cell B3 1
        refine bodyPost_ret (v := .tuple #[.agg #[(.int .u64 0), (.int .i64 0)], .int .i64 8]) (by simp [results, Tryd.results71, go_sem, r0, r1]) rfl ?_
        exact acc_mk (HA.out) HV2
end Go.Proofs.YthoikljmokkchaaDoor
