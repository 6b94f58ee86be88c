/-
  DERIVED. GIVEN WITH THE SEED: THE CARDS: each row of YtffnocjaljgnoaaDoorRows.lean that lists a variable, with what it lists TIED to the program's text (the seventh form; the later family's looks); each row that meets fmt, with fmt's text TOLD by the authors' own Lean function (tested against real Go, not proved from fmt's source: count such statements apart). THE CARD IS WHAT COUNTS. Prove the row's statement (the work); the ties are given (YtffnocjaljgnoaaDoorTie.lean); close each card by the builder's one call (the guide's Derived/Test/ToyasCard.lean, 'card_holds'). Laid BY PROGRAM, IN A SANDBOX (cutbox-door.mjs). By AI agents, Wed Nov 11 2026. No macro, syntax, notation, axiom, sorry.
-/
import Derived.Test.YtffnocjaljgnoaaDoorRows
import GoSem.ClaimSeven
namespace Go.Proofs.YtffnocjaljgnoaaDoor
namespace Rows

/-- THE TIED CARD OF 'perigeelaw33.LinkGarbles'. -/
def linkGarblesCard : Claim7 := { stood := { row := linkGarblesRow, standIns := [], harness := (true, "8e572b7972917d87e20e6be4731ca0b2c689ea2643831dcf4e3d1fecce1ad786"), looks := false }, kinds := [], alts := [], laidByText := true, laidKinds := [.data], laidTests := true, laidLooks := .later }
def LinkGarblesCardSaid : Prop := Claim7.holds Tryd.pinned (.plain (OpenSpec.ofChange linkGarblesSpec)) linkGarblesCard

/-- THE SECOND FORM's CARD OF 'perigeelaw33.LinkGarbles'. -/
def linkGarblesUptoCard : Claim7 := { stood := { row := linkGarblesUptoRow, standIns := [], harness := (true, "8e572b7972917d87e20e6be4731ca0b2c689ea2643831dcf4e3d1fecce1ad786"), looks := false }, kinds := [], alts := [], laidByText := true, laidKinds := [.data], laidTests := true, laidLooks := .later }
def LinkGarblesUptoCardSaid : Prop := Claim7.holds Tryd.pinned (.plain (OpenSpec.upto linkGarblesSpec)) linkGarblesUptoCard
end Rows
end Go.Proofs.YtffnocjaljgnoaaDoor
