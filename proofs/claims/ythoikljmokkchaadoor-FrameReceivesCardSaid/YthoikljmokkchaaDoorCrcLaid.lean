/- What the rows' list of variables gives, and a world that meets it. -/
import Derived.Test.YthoikljmokkchaaDoorCrcAll
import Derived.Test.YthoikljmokkchaaDoorCards
import Derived.Test.YthoikljmokkchaaDoorTie
import Derived.WalkKit
import Derived.ProofKit
import Derived.OpenShut
import Derived.Deep.DeepHandedRow
import Derived.Lib.LaidTab
namespace Go.Proofs.YthoikljmokkchaaDoor.Cr
open Go.ChangeShapes Go.WideShapes Go.ChangeAt Go.RowKit
theorem lown : ownKnob Tryd.prog.godebug = none := by kernel_rfl
theorem llaidOut : laidOutB Tryd.prog = true := by kernel_rfl
theorem gNib : Tryd.prog.globalNamed "perigee/crc.nibbles" = some 0 := by kernel_rfl
theorem gNibType : (Tryd.prog.globals[0]?).map (·.type) = some 158 := by kernel_rfl
theorem cellsNib : Tryd.prog.cellsOf 158 = 16 := by kernel_rfl
theorem cellsU32 : Tryd.prog.cellsOf 86 = 1 := by kernel_rfl
abbrev laidList : List (String × DataW Unit) := [("perigee/crc.nibbles", Rows.laid_perigee_crc_nibbles)]
def nibInts : List Int := [0, 498536548, 997073096, 651767980, 1994146192, 1802195444, 1303535960, 1342533948, 3988292384, 4027552580, 3604390888, 3412177804, 2607071920, 2262029012, 2685067896, 3183342108]
theorem nibTable {W : World} (h : laidMetH Tryd.prog laidList W) : Lib.TabIs Tryd.prog W "perigee/crc.nibbles" .u32 nibInts :=
  Lib.tabIs_of_head (rest := []) gNib gNibType Tryd.underlying158 Tryd.underlying86 cellsU32 cellsNib h
theorem nib_laid {W : World} (h : laidMetH Tryd.prog laidList W) : Nib W := by
  intro j hj
  have := (nibTable h).cell gNib j (by show j < 16; exact hj)
  rw [this]
  congr 2
  have e : ∀ i, i < 16 → nibInts.getD i 0 = ((nib i : Nat) : Int) := by decide
  exact e j hj
noncomputable def laidWorld (os : Os) : World :=
  { World.holding Tryd.prog os ⟨#[], #[], []⟩ with heap := (World.holding Tryd.prog os ⟨#[], #[], []⟩).heap.modify 0 fun
      | .cells _ t frozen => .cells (nibInts.map fun z => Value.int .u32 z).toArray t frozen
      | o => o }
end Go.Proofs.YthoikljmokkchaaDoor.Cr
