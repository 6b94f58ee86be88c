/-
  DERIVED. GIVEN WITH THE SEED: THE CARDS: each row of YtegdlgnofbjjcaaDoorRows.lean that lists a variable, with what it lists TIED to the program's text (the seventh form; the later family's looks); each row that meets fmt, with fmt's text TOLD by the authors' own Lean function (tested against real Go, not proved from fmt's source: count such statements apart). THE CARD IS WHAT COUNTS. Prove the row's statement (the work); the ties are given (YtegdlgnofbjjcaaDoorTie.lean); close each card by the builder's one call (the guide's Derived/Test/ToyasCard.lean, 'card_holds'). Laid BY PROGRAM, IN A SANDBOX (cutbox-door.mjs). By AI agents, Wed Nov 11 2026. No macro, syntax, notation, axiom, sorry.
-/
import Derived.Test.YtegdlgnofbjjcaaDoorRows
import GoSem.ClaimSeven
namespace Go.Proofs.YtegdlgnofbjjcaaDoor
namespace Rows

/-- THE TIED CARD OF 'perigeelaw03.CrcSum'. -/
def crcSumCard : Claim7 := { stood := { row := crcSumRow, standIns := [], harness := (true, "7ebb8734b5723b4637c036a8880ed7f6d10d3b1906ad42449ac08a40a564c99d"), looks := false }, kinds := [], alts := [], laidByText := true, laidKinds := [.data], laidTests := true, laidLooks := .later }
def CrcSumCardSaid : Prop := Claim7.holds Tryd.pinned (.plain (OpenSpec.ofChange crcSumSpec)) crcSumCard

/-- THE TIED CARD OF 'perigeelaw03.CrcCombine'. -/
def crcCombineCard : Claim7 := { stood := { row := crcCombineRow, standIns := [], harness := (true, "7ebb8734b5723b4637c036a8880ed7f6d10d3b1906ad42449ac08a40a564c99d"), looks := false }, kinds := [], alts := [], laidByText := true, laidKinds := [.data], laidTests := true, laidLooks := .later }
def CrcCombineCardSaid : Prop := Claim7.holds Tryd.pinned (.plain (OpenSpec.ofChange crcCombineSpec)) crcCombineCard

/-- THE TIED CARD OF 'perigeelaw03.CrcSeals'. -/
def crcSealsCard : Claim7 := { stood := { row := crcSealsRow, standIns := [], harness := (true, "7ebb8734b5723b4637c036a8880ed7f6d10d3b1906ad42449ac08a40a564c99d"), looks := false }, kinds := [], alts := [], laidByText := true, laidKinds := [.data], laidTests := true, laidLooks := .later }
def CrcSealsCardSaid : Prop := Claim7.holds Tryd.pinned (.plain (OpenSpec.ofChange crcSealsSpec)) crcSealsCard

/-- THE TIED CARD OF 'perigeelaw03.CrcResidue'. -/
def crcResidueCard : Claim7 := { stood := { row := crcResidueRow, standIns := [], harness := (true, "7ebb8734b5723b4637c036a8880ed7f6d10d3b1906ad42449ac08a40a564c99d"), looks := false }, kinds := [], alts := [], laidByText := true, laidKinds := [.data], laidTests := true, laidLooks := .later }
def CrcResidueCardSaid : Prop := Claim7.holds Tryd.pinned (.plain (OpenSpec.ofChange crcResidueSpec)) crcResidueCard

/-- THE TIED CARD OF 'perigeelaw03.CrcLinear'. -/
def crcLinearCard : Claim7 := { stood := { row := crcLinearRow, standIns := [], harness := (true, "7ebb8734b5723b4637c036a8880ed7f6d10d3b1906ad42449ac08a40a564c99d"), looks := false }, kinds := [], alts := [], laidByText := true, laidKinds := [.data], laidTests := true, laidLooks := .later }
def CrcLinearCardSaid : Prop := Claim7.holds Tryd.pinned (.plain (OpenSpec.ofChange crcLinearSpec)) crcLinearCard

/-- THE TIED CARD OF 'perigeelaw03.CrcBursts'. -/
def crcBurstsCard : Claim7 := { stood := { row := crcBurstsRow, standIns := [], harness := (true, "7ebb8734b5723b4637c036a8880ed7f6d10d3b1906ad42449ac08a40a564c99d"), looks := false }, kinds := [], alts := [], laidByText := true, laidKinds := [.data], laidTests := true, laidLooks := .later }
def CrcBurstsCardSaid : Prop := Claim7.holds Tryd.pinned (.plain (OpenSpec.ofChange crcBurstsSpec)) crcBurstsCard

/-- THE TIED CARD OF 'perigeelaw03.CrcTwoBits'. -/
def crcTwoBitsCard : Claim7 := { stood := { row := crcTwoBitsRow, standIns := [], harness := (true, "7ebb8734b5723b4637c036a8880ed7f6d10d3b1906ad42449ac08a40a564c99d"), looks := false }, kinds := [], alts := [], laidByText := true, laidKinds := [.data], laidTests := true, laidLooks := .later }
def CrcTwoBitsCardSaid : Prop := Claim7.holds Tryd.pinned (.plain (OpenSpec.ofChange crcTwoBitsSpec)) crcTwoBitsCard

/-- THE TIED CARD OF 'perigeelaw03.CrcJoins'. -/
def crcJoinsCard : Claim7 := { stood := { row := crcJoinsRow, standIns := [], harness := (true, "7ebb8734b5723b4637c036a8880ed7f6d10d3b1906ad42449ac08a40a564c99d"), looks := false }, kinds := [], alts := [], laidByText := true, laidKinds := [.data], laidTests := true, laidLooks := .later }
def CrcJoinsCardSaid : Prop := Claim7.holds Tryd.pinned (.plain (OpenSpec.ofChange crcJoinsSpec)) crcJoinsCard

/-- THE TIED CARD OF 'perigeelaw03.CrcZeros'. -/
def crcZerosCard : Claim7 := { stood := { row := crcZerosRow, standIns := [], harness := (true, "7ebb8734b5723b4637c036a8880ed7f6d10d3b1906ad42449ac08a40a564c99d"), looks := false }, kinds := [], alts := [], laidByText := true, laidKinds := [.data], laidTests := true, laidLooks := .later }
def CrcZerosCardSaid : Prop := Claim7.holds Tryd.pinned (.plain (OpenSpec.ofChange crcZerosSpec)) crcZerosCard

/-- THE TIED CARD OF 'perigeelaw03.CrcWire'. -/
def crcWireCard : Claim7 := { stood := { row := crcWireRow, standIns := [], harness := (true, "7ebb8734b5723b4637c036a8880ed7f6d10d3b1906ad42449ac08a40a564c99d"), looks := false }, kinds := [], alts := [], laidByText := true, laidKinds := [.data], laidTests := true, laidLooks := .later }
def CrcWireCardSaid : Prop := Claim7.holds Tryd.pinned (.plain (OpenSpec.ofChange crcWireSpec)) crcWireCard

/-- THE SECOND FORM's CARD OF 'perigeelaw03.CrcSum'. -/
def crcSumUptoCard : Claim7 := { stood := { row := crcSumUptoRow, standIns := [], harness := (true, "7ebb8734b5723b4637c036a8880ed7f6d10d3b1906ad42449ac08a40a564c99d"), looks := false }, kinds := [], alts := [], laidByText := true, laidKinds := [.data], laidTests := true, laidLooks := .later }
def CrcSumUptoCardSaid : Prop := Claim7.holds Tryd.pinned (.plain (OpenSpec.upto crcSumSpec)) crcSumUptoCard

/-- THE SECOND FORM's CARD OF 'perigeelaw03.CrcCombine'. -/
def crcCombineUptoCard : Claim7 := { stood := { row := crcCombineUptoRow, standIns := [], harness := (true, "7ebb8734b5723b4637c036a8880ed7f6d10d3b1906ad42449ac08a40a564c99d"), looks := false }, kinds := [], alts := [], laidByText := true, laidKinds := [.data], laidTests := true, laidLooks := .later }
def CrcCombineUptoCardSaid : Prop := Claim7.holds Tryd.pinned (.plain (OpenSpec.upto crcCombineSpec)) crcCombineUptoCard

/-- THE SECOND FORM's CARD OF 'perigeelaw03.CrcSeals'. -/
def crcSealsUptoCard : Claim7 := { stood := { row := crcSealsUptoRow, standIns := [], harness := (true, "7ebb8734b5723b4637c036a8880ed7f6d10d3b1906ad42449ac08a40a564c99d"), looks := false }, kinds := [], alts := [], laidByText := true, laidKinds := [.data], laidTests := true, laidLooks := .later }
def CrcSealsUptoCardSaid : Prop := Claim7.holds Tryd.pinned (.plain (OpenSpec.upto crcSealsSpec)) crcSealsUptoCard

/-- THE SECOND FORM's CARD OF 'perigeelaw03.CrcResidue'. -/
def crcResidueUptoCard : Claim7 := { stood := { row := crcResidueUptoRow, standIns := [], harness := (true, "7ebb8734b5723b4637c036a8880ed7f6d10d3b1906ad42449ac08a40a564c99d"), looks := false }, kinds := [], alts := [], laidByText := true, laidKinds := [.data], laidTests := true, laidLooks := .later }
def CrcResidueUptoCardSaid : Prop := Claim7.holds Tryd.pinned (.plain (OpenSpec.upto crcResidueSpec)) crcResidueUptoCard

/-- THE SECOND FORM's CARD OF 'perigeelaw03.CrcLinear'. -/
def crcLinearUptoCard : Claim7 := { stood := { row := crcLinearUptoRow, standIns := [], harness := (true, "7ebb8734b5723b4637c036a8880ed7f6d10d3b1906ad42449ac08a40a564c99d"), looks := false }, kinds := [], alts := [], laidByText := true, laidKinds := [.data], laidTests := true, laidLooks := .later }
def CrcLinearUptoCardSaid : Prop := Claim7.holds Tryd.pinned (.plain (OpenSpec.upto crcLinearSpec)) crcLinearUptoCard

/-- THE SECOND FORM's CARD OF 'perigeelaw03.CrcBursts'. -/
def crcBurstsUptoCard : Claim7 := { stood := { row := crcBurstsUptoRow, standIns := [], harness := (true, "7ebb8734b5723b4637c036a8880ed7f6d10d3b1906ad42449ac08a40a564c99d"), looks := false }, kinds := [], alts := [], laidByText := true, laidKinds := [.data], laidTests := true, laidLooks := .later }
def CrcBurstsUptoCardSaid : Prop := Claim7.holds Tryd.pinned (.plain (OpenSpec.upto crcBurstsSpec)) crcBurstsUptoCard

/-- THE SECOND FORM's CARD OF 'perigeelaw03.CrcTwoBits'. -/
def crcTwoBitsUptoCard : Claim7 := { stood := { row := crcTwoBitsUptoRow, standIns := [], harness := (true, "7ebb8734b5723b4637c036a8880ed7f6d10d3b1906ad42449ac08a40a564c99d"), looks := false }, kinds := [], alts := [], laidByText := true, laidKinds := [.data], laidTests := true, laidLooks := .later }
def CrcTwoBitsUptoCardSaid : Prop := Claim7.holds Tryd.pinned (.plain (OpenSpec.upto crcTwoBitsSpec)) crcTwoBitsUptoCard

/-- THE SECOND FORM's CARD OF 'perigeelaw03.CrcJoins'. -/
def crcJoinsUptoCard : Claim7 := { stood := { row := crcJoinsUptoRow, standIns := [], harness := (true, "7ebb8734b5723b4637c036a8880ed7f6d10d3b1906ad42449ac08a40a564c99d"), looks := false }, kinds := [], alts := [], laidByText := true, laidKinds := [.data], laidTests := true, laidLooks := .later }
def CrcJoinsUptoCardSaid : Prop := Claim7.holds Tryd.pinned (.plain (OpenSpec.upto crcJoinsSpec)) crcJoinsUptoCard

/-- THE SECOND FORM's CARD OF 'perigeelaw03.CrcZeros'. -/
def crcZerosUptoCard : Claim7 := { stood := { row := crcZerosUptoRow, standIns := [], harness := (true, "7ebb8734b5723b4637c036a8880ed7f6d10d3b1906ad42449ac08a40a564c99d"), looks := false }, kinds := [], alts := [], laidByText := true, laidKinds := [.data], laidTests := true, laidLooks := .later }
def CrcZerosUptoCardSaid : Prop := Claim7.holds Tryd.pinned (.plain (OpenSpec.upto crcZerosSpec)) crcZerosUptoCard

/-- THE SECOND FORM's CARD OF 'perigeelaw03.CrcWire'. -/
def crcWireUptoCard : Claim7 := { stood := { row := crcWireUptoRow, standIns := [], harness := (true, "7ebb8734b5723b4637c036a8880ed7f6d10d3b1906ad42449ac08a40a564c99d"), looks := false }, kinds := [], alts := [], laidByText := true, laidKinds := [.data], laidTests := true, laidLooks := .later }
def CrcWireUptoCardSaid : Prop := Claim7.holds Tryd.pinned (.plain (OpenSpec.upto crcWireSpec)) crcWireUptoCard
end Rows
end Go.Proofs.YtegdlgnofbjjcaaDoor
