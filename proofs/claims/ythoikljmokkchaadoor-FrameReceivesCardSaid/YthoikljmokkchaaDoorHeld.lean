/- A region that draws its order, in one cut: a struct that is made in it, and what its calls handed back. -/
import Derived.Test.YthoikljmokkchaaDoorBase
import Derived.Test.YthoikljmokkchaaDoorRegion
import Derived.Deep.Cut
import Derived.Deep.RegionHeld
namespace Go.Proofs.YthoikljmokkchaaDoor
open Go.RowKit
theorem keq {b : Nat} {w w' : World} (h : Keeps (fun i => i = b) w w') (o : Nat) (v : Value) : Keeps (fun i => i = b) w (w'.setCell ⟨b, o, none⟩ v) := h.setCell (S := fun i => i = b) (p := ⟨b, o, none⟩) (.inl rfl) v
section
variable {W w2 : World} {T : TypeId} {P : Nat → Array Value → World → Prop} {b : Nat} {c0 c1 c2 c3 c4 c5 z0 z1 z2 z3 z4 z5 : Value}
end
end Go.Proofs.YthoikljmokkchaaDoor
