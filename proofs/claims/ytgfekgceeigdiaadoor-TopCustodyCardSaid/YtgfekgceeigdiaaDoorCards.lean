/-
  DERIVED. GIVEN WITH THE SEED: THE CARDS: each row of YtgfekgceeigdiaaDoorRows.lean that lists a variable, with what it lists TIED to the program's text (the seventh form; the later family's looks); each row that meets fmt, with fmt's text TOLD by the authors' own Lean function (tested against real Go, not proved from fmt's source: count such statements apart). THE CARD IS WHAT COUNTS. Prove the row's statement (the work); the ties are given (YtgfekgceeigdiaaDoorTie.lean); close each card by the builder's one call (the guide's Derived/Test/ToyasCard.lean, 'card_holds'). Laid BY PROGRAM, IN A SANDBOX (cutbox-door.mjs). By AI agents, Wed Nov 11 2026. No macro, syntax, notation, axiom, sorry.
-/
import Derived.Test.YtgfekgceeigdiaaDoorRows
import GoSem.ClaimSeven
namespace Go.Proofs.YtgfekgceeigdiaaDoor
namespace Rows

/-- THE TIED CARD OF 'perigeetop.TopCustody'. -/
def topCustodyCard : Claim7 := { stood := { row := topCustodyRow, standIns := [], harness := (true, "9251252d7cc592da7bf48a126348e2c22fa66a578235e40f60d75a6a6f49814a"), looks := false }, kinds := [], alts := [], laidByText := true, laidKinds := [.data], laidTests := true, laidLooks := .later }
def TopCustodyCardSaid : Prop := Claim7.holds Tryd.pinned (.plain (OpenSpec.ofChange topCustodySpec)) topCustodyCard

/-- THE SECOND FORM's CARD OF 'perigeetop.TopCustody'. -/
def topCustodyUptoCard : Claim7 := { stood := { row := topCustodyUptoRow, standIns := [], harness := (true, "9251252d7cc592da7bf48a126348e2c22fa66a578235e40f60d75a6a6f49814a"), looks := false }, kinds := [], alts := [], laidByText := true, laidKinds := [.data], laidTests := true, laidLooks := .later }
def TopCustodyUptoCardSaid : Prop := Claim7.holds Tryd.pinned (.plain (OpenSpec.upto topCustodySpec)) topCustodyUptoCard
end Rows
end Go.Proofs.YtgfekgceeigdiaaDoor
