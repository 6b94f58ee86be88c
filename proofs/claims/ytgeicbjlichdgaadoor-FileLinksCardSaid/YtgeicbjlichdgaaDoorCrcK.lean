/- lives. -/
import Derived.Test.YtgeicbjlichdgaaDoorCrcJ
import Derived.Lib.SlBytesConst
namespace Go.Proofs.YtgeicbjlichdgaaDoor.Cr
open Go.RowKit
attribute [local go_sem ↓] Go.wp_at_zero Go.wp_at_succ
theorem lit_sl (w : World) (l : List Nat) (hm : l.length ≤ 100) : Sl (fun _ => True) (w.alloc (.cells (u8s l).toArray 5)) (.slice (some ⟨w.heap.size, 0, none⟩) l.length l.length) (u8s l) := by
  have h := World.ownsRow_lit (base := 0) (e := 5) (size := 1) w (u8s l).toArray l.length (Nat.zero_le _) (by unfold maxLen; omega) (by simp)
  refine own_sl (S := fun _ => True) ⟨?_, fun _ _ => trivial⟩ (by simp)
  simpa using h
/-- a literal that has been converted to its own type -/
theorem lit_slm (w : World) (l : List Nat) (fr : Nat × Nat) (hm : l.length ≤ 100) : Sl (fun _ => True) (w.alloc (.cells (u8s l).toArray 5 fr)) (.slice (some ⟨w.heap.size, 0, none⟩) l.length l.length) (u8s l) := by
  refine row_sl (n := l.length) ⟨by simp, .inr ⟨_, l.length, rfl, Nat.le_refl _, by unfold maxLen; omega, fun hn => ⟨w.heap.size, 0, rfl, trivial, by simp, fun j hj => ?_⟩⟩⟩ (by simp)
  have hh := heap_alloc_new w (.cells (u8s l).toArray 5 fr)
  have hj2 : j < (u8s l).length := by simp; omega
  have e : (w.alloc (.cells (u8s l).toArray 5 fr)).cell? ⟨w.heap.size, 0 + j, none⟩ = (u8s l).toArray[j]? := by
    unfold World.cell?
    simp only [hh, Nat.zero_add]
    rfl
  rw [e]
  simp [List.getD, List.getElem?_eq_getElem hj2]
theorem conv_lit (w : World) (C : Array Value) (n c : Nat) : (convert 22 22 (.slice (some ⟨w.heap.size, 0, none⟩) n c)).run Tryd.prog (w.alloc (.cells C 5)) = .ok (.slice (some ⟨w.heap.size, 0, none⟩) n c) (w.alloc (.cells C 5 (C.size, C.size + 1))) :=
  Go.Lib.run_convert_bytes_const w _ _ C n c Tryd.underlying22 Tryd.underlying5
theorem op1 : opened [97, 67, 190, 183, 232] = ([97], 0) := by kernel_rfl
theorem op2 : opened [1, 2, 3] = ([], 6) := by kernel_rfl
theorem op3 : opened [1, 0, 0, 0, 0] = ([], 8) := by kernel_rfl
theorem cr0 : crc [] = 0 := by kernel_rfl
theorem cr1 : crc [49, 50, 51, 52, 53, 54, 55, 56, 57] = 3421780262 := by kernel_rfl
theorem cr2 : crc [97] = 3904355907 := by kernel_rfl
theorem cr3 : upd (crc [49, 50, 51, 52, 53]) [54, 55, 56, 57] = 3421780262 := by kernel_rfl
theorem sl1 : seal_ [97] = [97, 67, 190, 183, 232] := by kernel_rfl
theorem cb1 : comb 1 0 1 = 1996959894 := by kernel_rfl
theorem cb2 : comb 1 2 0 = 3 := by kernel_rfl
end Go.Proofs.YtgeicbjlichdgaaDoor.Cr
