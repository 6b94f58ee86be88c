/- Frames: FrPE, FrPF, FrPG: walks and plain facts. -/
import Derived.Test.YthoikljmokkchaaDoorFrPlain
import Derived.Test.YthoikljmokkchaaDoorFrZ
import Derived.Test.YthoikljmokkchaaDoorFrRcv
namespace Go.Proofs.YthoikljmokkchaaDoor
open Go.RowKit
structure WM where
  s : Sd
  r : Rv
  fs : List Fr
  rp : List Rp
  gt : List (List Nat)
theorem emitM_cases (s : Sd) (q : Int) : (∃ e, e ≠ 0 ∧ emitM s q = (zFr, zSd, e)) ∨ (0 ≤ q ∧ q < s.bs.length ∧ s.a ≤ q ∧ q < s.a + 16 ∧ emitM s q = (signF s.l ⟨q, 0, false, s.bs.getD q.toNat [], 0⟩, ⟨s.bs, s.a, nextL s.l⟩, 0)) := by
  unfold emitM
  split
  · exact .inl ⟨5, by omega, rfl⟩
  · split
    · exact .inl ⟨32, by omega, rfl⟩
    · exact .inr ⟨by omega, by omega, by omega, by omega, rfl⟩
theorem getD_mem {α : Type} {l : List α} {k : Nat} (d : α) (h : k < l.length) : l.getD k d ∈ l := by
  rw [List.getD, List.getElem?_eq_getElem h]; exact List.getElem_mem h
end Go.Proofs.YthoikljmokkchaaDoor
namespace Go.Proofs.YthoikljmokkchaaDoor
open Go.RowKit
end Go.Proofs.YthoikljmokkchaaDoor
namespace Go.Proofs.YthoikljmokkchaaDoor
open Go.RowKit
end Go.Proofs.YthoikljmokkchaaDoor
