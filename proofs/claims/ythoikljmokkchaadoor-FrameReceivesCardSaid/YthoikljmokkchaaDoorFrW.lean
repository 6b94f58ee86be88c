/- Frame: a frame that moved the ladder is refused when it arrives again. -/
import Derived.Test.YthoikljmokkchaaDoorFrZ
import Derived.Test.YthoikljmokkchaaDoorFrSM
import Derived.Test.YthoikljmokkchaaDoorFrV
import Derived.Test.YthoikljmokkchaaDoorFrPD
import Derived.Test.YthoikljmokkchaaDoorFrTwo2
import Derived.Test.YthoikljmokkchaaDoorFrManyX
import Derived.Deep.DrawnRows
namespace Go.Proofs.YthoikljmokkchaaDoor
open Go.RowKit
attribute [local go_sem ↓] Go.wp_at_zero Go.wp_at_succ
theorem frp_lt {KD : Nat → Prop} {B : Nat} {w : World} {v : Value} {l : List Fr} (h : FrP KD B w v l) : ∀ b, v.ownBlock = some b → b < w.heap.size := fun b hb => by
  obtain ⟨xs, hO, _⟩ := h
  rcases hO.1.2 with ⟨h, _⟩ | ⟨g, cap, cur, h, _, h3, _⟩
  · rw [h] at hb; simp [Value.ownBlock] at hb
  · rw [h] at hb; injection hb with hb; subst hb; exact (Array.getElem?_eq_some_iff.1 h3).1
theorem src_blk {V : World} {g : Nat} {cs : Array Value} {T : TypeId} (h : Blk V g cs T) (n size : Nat) (hl : cs.size = n * size) (hm : n ≤ maxLen) : Row (fun _ => True) V size (.slice (some ⟨g, 0, none⟩) n n) n cs.toList :=
  ⟨by simpa using hl, .inr ⟨_, n, rfl, Nat.le_refl _, hm, fun _ => ⟨g, 0, rfl, trivial, blk_lt h, fun j hj => by
    rw [Nat.zero_add, blk_cell h j]
    have : j < cs.size := by omega
    simp [List.getD, this]⟩⟩⟩
theorem sgnF_ok {l : Ld} {x : AC} (hl : l.ok) (hi : l.i ≤ 1000000) (hx : AcOk x) (hb : x.b.length ≤ 140737488351232) : (sgnF l x).ok := by
  have hr := around_b x.m (show (1 : Int) ≤ 3 by omega)
  have h := advL_ok hl (n := (around x.m 3).toNat) (by omega)
  refine signF_ok ⟨hx.n.1, hx.n.2, ?_, ?_, hx.b, by show 0 < _; omega, hb⟩ h
  · have := h.i0; show _ ≤ (advL l _).i; omega
  · have := h.i1; show (advL l _).i ≤ _; omega
theorem sgnL_ok {l : Ld} {x : AC} (hl : l.ok) (hi : l.i ≤ 1000000) : (sgnL l x).ok ∧ (sgnL l x).i ≤ l.i + 3 := by
  have hr := around_b x.m (show (1 : Int) ≤ 3 by omega)
  have h := advL_ok hl (n := (around x.m 3).toNat) (by omega)
  have h0 := hl.i0
  exact ⟨⟨stepN_lt _, by show 0 ≤ l.i + _ + 1; omega, by show l.i + _ + 1 ≤ _; omega⟩, by show l.i + _ + 1 ≤ _; omega⟩
/-- the receiver's frames stand apart from the list of the past -/
def ROut (w W : World) (v : Value) (b : Nat) : Prop := (b < w.heap.size ∨ W.heap.size ≤ b) ∧ v.ownBlock ≠ some b
end Go.Proofs.YthoikljmokkchaaDoor
