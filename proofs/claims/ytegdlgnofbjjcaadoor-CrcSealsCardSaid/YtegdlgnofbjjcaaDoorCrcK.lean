/- lives. -/
import Derived.Test.YtegdlgnofbjjcaaDoorCrcJ
import Derived.Lib.SlBytesConst
namespace Go.Proofs.YtegdlgnofbjjcaaDoor
open Go.RowKit
attribute [local go_sem ↓] Go.wp_at_zero Go.wp_at_succ
theorem lit_sl (w : World) (l : List Nat) (hm : l.length ≤ 100) : Sl (fun _ => True) (w.alloc (.cells (u8s l).toArray 5)) (.slice (some ⟨w.heap.size, 0, none⟩) l.length l.length) (u8s l) := by
  have h := World.ownsRow_lit (base := 0) (e := 5) (size := 1) w (u8s l).toArray l.length (Nat.zero_le _) (by unfold maxLen; omega) (by simp)
  refine own_sl (S := fun _ => True) ⟨?_, fun _ _ => trivial⟩ (by simp)
  simpa using h
/-- a literal that has been converted to its own type -/
theorem lit_slm (w : World) (l : List Nat) (fr : Nat × Nat) (hm : l.length ≤ 100) : Sl (fun _ => True) (w.alloc (.cells (u8s l).toArray 5 fr)) (.slice (some ⟨w.heap.size, 0, none⟩) l.length l.length) (u8s l) := by
  refine row_sl (n := l.length) ⟨by simp, .inr ⟨_, l.length, rfl, Nat.le_refl _, by unfold maxLen; omega, fun hn => ⟨w.heap.size, 0, rfl, trivial, by simp, fun j hj => ?_⟩⟩⟩ (by simp)
  have hh := heap_alloc_new w (.cells (u8s l).toArray 5 fr)
  have hj2 : j < (u8s l).length := by simp; omega
  have e : (w.alloc (.cells (u8s l).toArray 5 fr)).cell? ⟨w.heap.size, 0 + j, none⟩ = (u8s l).toArray[j]? := by
    unfold World.cell?
    simp only [hh, Nat.zero_add]
    rfl
  rw [e]
  simp [List.getD, List.getElem?_eq_getElem hj2]
theorem conv_lit (w : World) (C : Array Value) (n c : Nat) : (convert 22 22 (.slice (some ⟨w.heap.size, 0, none⟩) n c)).run Tryd.prog (w.alloc (.cells C 5)) = .ok (.slice (some ⟨w.heap.size, 0, none⟩) n c) (w.alloc (.cells C 5 (C.size, C.size + 1))) :=
  Go.Lib.run_convert_bytes_const w _ _ C n c Tryd.underlying22 Tryd.underlying5
theorem op1 : opened [97, 67, 190, 183, 232] = ([97], 0) := by kernel_rfl
theorem op2 : opened [1, 2, 3] = ([], 6) := by kernel_rfl
theorem op3 : opened [1, 0, 0, 0, 0] = ([], 8) := by kernel_rfl
theorem cr0 : crc [] = 0 := by kernel_rfl
theorem cr1 : crc [49, 50, 51, 52, 53, 54, 55, 56, 57] = 3421780262 := by kernel_rfl
theorem cr2 : crc [97] = 3904355907 := by kernel_rfl
theorem cr3 : upd (crc [49, 50, 51, 52, 53]) [54, 55, 56, 57] = 3421780262 := by kernel_rfl
theorem sl1 : seal_ [97] = [97, 67, 190, 183, 232] := by kernel_rfl
theorem cb1 : comb 1 0 1 = 1996959894 := by kernel_rfl
theorem cb2 : comb 1 2 0 = 3 := by kernel_rfl
set_option maxRecDepth 100000 in set_option maxHeartbeats 1000000 in
theorem lives_any (w : World) (hN : Nib w) :
    Calls Tryd.prog 13 #[] w fun e w' => e = .returned (.bool true) ∧ Keeps (fun _ => False) w w' := by
  have HN := hid hN
  clear hN
  go_enter Tryd.func13, Tryd.ntmps13
  go_wp2_with fail
  have Q1 : Hd (Keeps (fun _ => False) w (w.alloc (.cells (u8s [97, 67, 190, 183, 232]).toArray 5))) := hid (keeps_alloc _ _ _)
  refine (Open_any _ _ [97, 67, 190, 183, 232] _ (HN.out.keep Q1.out (fun h => h)) (lit_sl w [97, 67, 190, 183, 232] (by decide)) (by decide) (by decide)).mono ?_
  rintro e w1 ⟨a1, n1, c1, rfl, hn1, ho1, hk1⟩
  rw [op1] at hn1 ho1 ⊢
  replace hn1 := hid hn1; replace ho1 := hid ho1; replace Q1 : Hd (Keeps (fun _ => False) w w1) := hid (Q1.out.trans hk1)
  clear hk1
  go_wp2_with fail
  have Q2 : Hd (Keeps (fun _ => False) w (w1.alloc (.cells (u8s [1, 2, 3]).toArray 5))) := hid (Q1.out.alloc _)
  refine (Open_any _ _ [1, 2, 3] _ (HN.out.keep Q2.out (fun h => h)) (lit_sl w1 [1, 2, 3] (by decide)) (by decide) (by decide)).mono ?_
  rintro e w2 ⟨a2, n2, c2, rfl, hn2, ho2, hk2⟩
  rw [op2]
  clear hn2 ho2
  replace Q2 : Hd (Keeps (fun _ => False) w w2) := hid (Q2.out.trans hk2)
  replace hk2 := hid hk2
  go_wp2_with fail
  have Q3 : Hd (Keeps (fun _ => False) w (w2.alloc (.cells (u8s [1, 0, 0, 0, 0]).toArray 5))) := hid (Q2.out.alloc _)
  refine (Open_any _ _ [1, 0, 0, 0, 0] _ (HN.out.keep Q3.out (fun h => h)) (lit_sl w2 [1, 0, 0, 0, 0] (by decide)) (by decide) (by decide)).mono ?_
  rintro e w3 ⟨a3, n3, c3, rfl, hn3, ho3, hk3⟩
  rw [op3]
  clear hn3 ho3
  have K13 : Hd (Keeps (fun _ => False) w1 w3) := hid ((((Keeps.refl _ w1).alloc _).trans hk2.out).trans (((Keeps.refl _ w2).alloc _).trans hk3))
  replace Q3 : Hd (Keeps (fun _ => False) w w3) := hid (Q3.out.trans hk3)
  have S1 : Hd (Sl (fun b => w.heap.size < b + 1) w3 (.slice a1 n1 c1) (u8s [97])) := hid ((own_sl (ho1.out.keep K13.out (fun _ _ _ h => h)) hn1.out).mono (fun b _ h => by simp at h; omega))
  clear ho1 hk2 hk3
  have v1 : (convert 22 22 (.slice (some ⟨w3.heap.size, 0, none⟩) 9 9)).run Tryd.prog (w3.alloc (.cells #[.int .u8 49, .int .u8 50, .int .u8 51, .int .u8 52, .int .u8 53, .int .u8 54, .int .u8 55, .int .u8 56, .int .u8 57] 5)) = .ok (.slice (some ⟨w3.heap.size, 0, none⟩) 9 9) (w3.alloc (.cells #[.int .u8 49, .int .u8 50, .int .u8 51, .int .u8 52, .int .u8 53, .int .u8 54, .int .u8 55, .int .u8 56, .int .u8 57] 5 (9, 10))) := conv_lit w3 _ 9 9
  go_wp2_with fail
  have Q4 : Hd (Keeps (fun _ => False) w (w3.alloc (.cells (u8s [49, 50, 51, 52, 53, 54, 55, 56, 57]).toArray 5 (9, 10)))) := hid (Q3.out.alloc _)
  refine (Sum_any _ _ [49, 50, 51, 52, 53, 54, 55, 56, 57] _ (HN.out.keep Q4.out (fun h => h)) (lit_slm w3 [49, 50, 51, 52, 53, 54, 55, 56, 57] (9, 10) (by decide)) (by decide) (by decide)).mono ?_
  rintro e w4 ⟨rfl, rfl⟩
  rw [cr1]
  go_wp2_with fail
  refine (Sum_any (fun _ => True) _ [] _ (HN.out.keep Q4.out (fun h => h)) (Sl.nil _ _) (by decide) (by decide)).mono ?_
  rintro e w4 ⟨rfl, rfl⟩
  rw [cr0]
  clear v1
  replace S1 := hid (S1.out.keep ((Keeps.refl (fun _ => False) w3).alloc (.cells (u8s [49, 50, 51, 52, 53, 54, 55, 56, 57]).toArray 5 (9, 10))) (fun _ _ _ h => h))
  generalize w3.alloc (.cells (u8s [49, 50, 51, 52, 53, 54, 55, 56, 57]).toArray 5 (9, 10)) = w4 at *
  have v2 : (convert 22 22 (.slice (some ⟨w4.heap.size, 0, none⟩) 1 1)).run Tryd.prog (w4.alloc (.cells #[.int .u8 97] 5)) = .ok (.slice (some ⟨w4.heap.size, 0, none⟩) 1 1) (w4.alloc (.cells #[.int .u8 97] 5 (1, 2))) := conv_lit w4 _ 1 1
  go_wp2_with fail
  have Q5 : Hd (Keeps (fun _ => False) w (w4.alloc (.cells (u8s [97]).toArray 5 (1, 2)))) := hid (Q4.out.alloc _)
  refine (Sum_any _ _ [97] _ (HN.out.keep Q5.out (fun h => h)) (lit_slm w4 [97] (1, 2) (by decide)) (by decide) (by decide)).mono ?_
  rintro e w_ ⟨rfl, rfl⟩
  rw [cr2]
  clear v2
  replace S1 := hid (S1.out.keep ((Keeps.refl (fun _ => False) w4).alloc (.cells (u8s [97]).toArray 5 (1, 2))) (fun _ _ _ h => h))
  generalize w4.alloc (.cells (u8s [97]).toArray 5 (1, 2)) = w5 at *
  have v3 : (convert 22 22 (.slice (some ⟨w5.heap.size, 0, none⟩) 5 5)).run Tryd.prog (w5.alloc (.cells #[.int .u8 49, .int .u8 50, .int .u8 51, .int .u8 52, .int .u8 53] 5)) = .ok (.slice (some ⟨w5.heap.size, 0, none⟩) 5 5) (w5.alloc (.cells #[.int .u8 49, .int .u8 50, .int .u8 51, .int .u8 52, .int .u8 53] 5 (5, 6))) := conv_lit w5 _ 5 5
  go_wp2_with fail
  have Q6 : Hd (Keeps (fun _ => False) w (w5.alloc (.cells (u8s [49, 50, 51, 52, 53]).toArray 5 (5, 6)))) := hid (Q5.out.alloc _)
  refine (Sum_any _ _ [49, 50, 51, 52, 53] _ (HN.out.keep Q6.out (fun h => h)) (lit_slm w5 [49, 50, 51, 52, 53] (5, 6) (by decide)) (by decide) (by decide)).mono ?_
  rintro e w_ ⟨rfl, rfl⟩
  clear v3
  replace S1 := hid (S1.out.keep ((Keeps.refl (fun _ => False) w5).alloc (.cells (u8s [49, 50, 51, 52, 53]).toArray 5 (5, 6))) (fun _ _ _ h => h))
  generalize w5.alloc (.cells (u8s [49, 50, 51, 52, 53]).toArray 5 (5, 6)) = w6 at *
  have v4 : (convert 22 22 (.slice (some ⟨w6.heap.size, 0, none⟩) 4 4)).run Tryd.prog (w6.alloc (.cells #[.int .u8 54, .int .u8 55, .int .u8 56, .int .u8 57] 5)) = .ok (.slice (some ⟨w6.heap.size, 0, none⟩) 4 4) (w6.alloc (.cells #[.int .u8 54, .int .u8 55, .int .u8 56, .int .u8 57] 5 (4, 5))) := conv_lit w6 _ 4 4
  go_wp2_with fail
  have Q7 : Hd (Keeps (fun _ => False) w (w6.alloc (.cells (u8s [54, 55, 56, 57]).toArray 5 (4, 5)))) := hid (Q6.out.alloc _)
  refine (Update_any _ (crc [49, 50, 51, 52, 53]) _ [54, 55, 56, 57] _ (HN.out.keep Q7.out (fun h => h)) (lit_slm w6 [54, 55, 56, 57] (4, 5) (by decide)) (crc_lt (by decide)) (by decide) (by decide)).mono ?_
  rintro e w_ ⟨rfl, rfl⟩
  rw [cr3]
  clear v4
  replace S1 := hid (S1.out.keep ((Keeps.refl (fun _ => False) w6).alloc (.cells (u8s [54, 55, 56, 57]).toArray 5 (4, 5))) (fun _ _ _ h => h))
  generalize w6.alloc (.cells (u8s [54, 55, 56, 57]).toArray 5 (4, 5)) = w7 at *
  have v5 : (convert 22 22 (.slice (some ⟨w7.heap.size, 0, none⟩) 1 1)).run Tryd.prog (w7.alloc (.cells #[.int .u8 97] 5)) = .ok (.slice (some ⟨w7.heap.size, 0, none⟩) 1 1) (w7.alloc (.cells #[.int .u8 97] 5 (1, 2))) := conv_lit w7 _ 1 1
  go_wp2_with fail
  have Q8 : Hd (Keeps (fun _ => False) w (w7.alloc (.cells (u8s [97]).toArray 5 (1, 2)))) := hid (Q7.out.alloc _)
  refine (Seal_any _ _ [97] _ (HN.out.keep Q8.out (fun h => h)) (lit_slm w7 [97] (1, 2) (by decide)) (by decide) (by decide)).mono ?_
  rintro e w8 ⟨a4, n4, c4, rfl, hn4, ho4, hk4⟩
  rw [sl1] at hn4 ho4
  have Q9 : Hd (Keeps (fun _ => False) w w8) := hid (Q8.out.trans hk4)
  have cv1 := conv_sl (own_sl ho4 hn4) (by decide)
  have cv2 := conv_sl (S1.out.keep (((Keeps.refl (fun _ => False) w7).alloc (.cells (u8s [97]).toArray 5 (1, 2))).trans hk4) (fun _ _ _ h => h)) (by decide)
  have s1 : (str [97, 67, 190, 183, 232]).toList = [97, 67, 190, 183, 232] := by decide +kernel
  have s2 : (str [97]).toList = [97] := by decide +kernel
  clear hn4 ho4 hk4 v5
  go_wp2_with fail
  refine (Combine_any 1 0 1 _ (HN.out.keep Q9.out (fun h => h)) (by omega) (by omega) (by omega)).mono ?_
  rintro e w9 ⟨rfl, hk5⟩
  rw [cb1]
  have Q10 : Hd (Keeps (fun _ => False) w w9) := hid (Q9.out.trans hk5)
  clear hk5
  go_wp2_with fail
  refine (Combine_any 1 2 0 _ (HN.out.keep Q10.out (fun h => h)) (by omega) (by omega) (by omega)).mono ?_
  rintro e w10 ⟨rfl, hk6⟩
  rw [cb2]
  have Q11 : Hd (Keeps (fun _ => False) w w10) := hid (Q10.out.trans hk6)
  clear hk6
  go_wp2
  go_ret
  exact ⟨rfl, Q11.out⟩
end Go.Proofs.YtegdlgnofbjjcaaDoor
