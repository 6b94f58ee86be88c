/-
  NARROWER THAN 'FOR EVERY INPUT', by the rows' own cells (each row's printed sentence says how): CrcSum: laid · CrcCombine: laid · CrcSeals: laid · CrcResidue: laid · CrcLinear: laid · CrcBursts: laid · CrcTwoBits: laid · CrcJoins: laid · CrcZeros: laid · CrcWire: laid.
  DERIVED. THE GIVEN ROWS OF THIS SEAT. 10 by the template 'for every input the law returns true; each argument reads behind the call as it read before'; 0 by the template 'total and deterministic' (their statements: YtegdlgnofbjjcaaDoorTotals.lean).
  GIVEN WITH THE SEED: the statements are not yours to turn. If you find one false, say at which input.
  Laid BY PROGRAM, IN A SANDBOX (cutbox-rows.mjs): the forced cells as the released guide's own fill.sh prints them over the translation 78e1461718c93a3c… (all of the seat's roots in one cut). By AI agents, Wed Nov 11 2026. No macro, syntax, notation, axiom, sorry.
-/
import Derived.Test.YtegdlgnofbjjcaaDoorChecked
import GoSem.Claim
import GoSem.ClaimJoined
import GoSem.ClaimMapViews
import Derived.JoinedTies
import Derived.KernelRfl
namespace Go.Proofs.YtegdlgnofbjjcaaDoor
/- THE CELL 'sum', in the pinned program and in every row, IS THE sha256 OF THE DUMP (.gsa) THAT YtegdlgnofbjjcaaDoorProg.lean LOADS. Nothing in Lean hashes anything: it is a label: what it is worth is what the hold of that sum in a sandbox is worth. -/
noncomputable def Tryd.pinned : Pinned := { name := "ytegdlgnofbjjcaadoor", sum := "78e1461718c93a3c88819261f47aefd09afbbae318a4e200aeee24fa0e751bbb", checked := Tryd.checked }
namespace Rows
def none {H : Type} : Left H := { results := [], args := [] }

/- WHAT THE LISTED PACKAGE-LEVEL VARIABLES READ AS WHEN THE CALL BEGINS. Each datum BY PROGRAM (the guide's laid-datum.mjs) off the statement by which the dump's own 'gosem.cut.vars' lays the variable. In a bare row this is a premise. The card (YtegdlgnofbjjcaaDoorCards.lean) ties it to the program's text. -/
def laid_perigee_crc_nibbles {H : Type} : DataW H := .agg [.lit (.int .u32 0), .lit (.int .u32 498536548), .lit (.int .u32 997073096), .lit (.int .u32 651767980), .lit (.int .u32 1994146192), .lit (.int .u32 1802195444), .lit (.int .u32 1303535960), .lit (.int .u32 1342533948), .lit (.int .u32 3988292384), .lit (.int .u32 4027552580), .lit (.int .u32 3604390888), .lit (.int .u32 3412177804), .lit (.int .u32 2607071920), .lit (.int .u32 2262029012), .lit (.int .u32 2685067896), .lit (.int .u32 3183342108)]

/-- 'perigeelaw03.CrcSum': WHATEVER THE INPUT: true; the input reads as it did. -/
def crcSumSpec : ChangeSpec := { name := "crcSum", fn := fun _ => fun
  | [d1, d2] => { results := [.lit (.bool true)], args := [d1, d2] }
  | _ => none }
def crcSumRow : OpenClaim := { program := "ytegdlgnofbjjcaadoor", sum := "78e1461718c93a3c88819261f47aefd09afbbae318a4e200aeee24fa0e751bbb", func := "perigee/perigeelaw03.CrcSum", spec := "crcSum", named := ["perigee/crc.nibbles"], apart := false, laid := [("perigee/crc.nibbles", laid_perigee_crc_nibbles)] }
def CrcSumSaid : Prop := crcSumRow.holds Tryd.pinned (OpenSpec.ofChange crcSumSpec)

/-- ITS FALSE NEIGHBOUR: 'it returns false'. Refute it at one input. -/
def crcSumWrong : ChangeSpec := { name := "crcSum", fn := fun _ => fun
  | [d1, d2] => { results := [.lit (.bool false)], args := [d1, d2] }
  | _ => none }
def CrcSumWrongFalsely : Prop := crcSumRow.holds Tryd.pinned (OpenSpec.ofChange crcSumWrong)

/-- 'perigeelaw03.CrcCombine': WHATEVER THE INPUT: true; the input reads as it did. -/
def crcCombineSpec : ChangeSpec := { name := "crcCombine", fn := fun _ => fun
  | [d1, d2, d3] => { results := [.lit (.bool true)], args := [d1, d2, d3] }
  | _ => none }
def crcCombineRow : OpenClaim := { program := "ytegdlgnofbjjcaadoor", sum := "78e1461718c93a3c88819261f47aefd09afbbae318a4e200aeee24fa0e751bbb", func := "perigee/perigeelaw03.CrcCombine", spec := "crcCombine", named := ["perigee/crc.nibbles"], apart := false, laid := [("perigee/crc.nibbles", laid_perigee_crc_nibbles)] }
def CrcCombineSaid : Prop := crcCombineRow.holds Tryd.pinned (OpenSpec.ofChange crcCombineSpec)

/-- ITS FALSE NEIGHBOUR: 'it returns false'. Refute it at one input. -/
def crcCombineWrong : ChangeSpec := { name := "crcCombine", fn := fun _ => fun
  | [d1, d2, d3] => { results := [.lit (.bool false)], args := [d1, d2, d3] }
  | _ => none }
def CrcCombineWrongFalsely : Prop := crcCombineRow.holds Tryd.pinned (OpenSpec.ofChange crcCombineWrong)

/-- 'perigeelaw03.CrcSeals': WHATEVER THE INPUT: true; the input reads as it did. -/
def crcSealsSpec : ChangeSpec := { name := "crcSeals", fn := fun _ => fun
  | [d] => { results := [.lit (.bool true)], args := [d] }
  | _ => none }
def crcSealsRow : OpenClaim := { program := "ytegdlgnofbjjcaadoor", sum := "78e1461718c93a3c88819261f47aefd09afbbae318a4e200aeee24fa0e751bbb", func := "perigee/perigeelaw03.CrcSeals", spec := "crcSeals", named := ["perigee/crc.nibbles"], apart := false, laid := [("perigee/crc.nibbles", laid_perigee_crc_nibbles)] }
def CrcSealsSaid : Prop := crcSealsRow.holds Tryd.pinned (OpenSpec.ofChange crcSealsSpec)

/-- ITS FALSE NEIGHBOUR: 'it returns false'. Refute it at one input. -/
def crcSealsWrong : ChangeSpec := { name := "crcSeals", fn := fun _ => fun
  | [d] => { results := [.lit (.bool false)], args := [d] }
  | _ => none }
def CrcSealsWrongFalsely : Prop := crcSealsRow.holds Tryd.pinned (OpenSpec.ofChange crcSealsWrong)

/-- 'perigeelaw03.CrcResidue': WHATEVER THE INPUT: true; the input reads as it did. -/
def crcResidueSpec : ChangeSpec := { name := "crcResidue", fn := fun _ => fun
  | [d] => { results := [.lit (.bool true)], args := [d] }
  | _ => none }
def crcResidueRow : OpenClaim := { program := "ytegdlgnofbjjcaadoor", sum := "78e1461718c93a3c88819261f47aefd09afbbae318a4e200aeee24fa0e751bbb", func := "perigee/perigeelaw03.CrcResidue", spec := "crcResidue", named := ["perigee/crc.nibbles"], apart := false, laid := [("perigee/crc.nibbles", laid_perigee_crc_nibbles)] }
def CrcResidueSaid : Prop := crcResidueRow.holds Tryd.pinned (OpenSpec.ofChange crcResidueSpec)

/-- ITS FALSE NEIGHBOUR: 'it returns false'. Refute it at one input. -/
def crcResidueWrong : ChangeSpec := { name := "crcResidue", fn := fun _ => fun
  | [d] => { results := [.lit (.bool false)], args := [d] }
  | _ => none }
def CrcResidueWrongFalsely : Prop := crcResidueRow.holds Tryd.pinned (OpenSpec.ofChange crcResidueWrong)

/-- 'perigeelaw03.CrcLinear': WHATEVER THE INPUT: true; the input reads as it did. -/
def crcLinearSpec : ChangeSpec := { name := "crcLinear", fn := fun _ => fun
  | [d1, d2, d3] => { results := [.lit (.bool true)], args := [d1, d2, d3] }
  | _ => none }
def crcLinearRow : OpenClaim := { program := "ytegdlgnofbjjcaadoor", sum := "78e1461718c93a3c88819261f47aefd09afbbae318a4e200aeee24fa0e751bbb", func := "perigee/perigeelaw03.CrcLinear", spec := "crcLinear", named := ["perigee/crc.nibbles"], apart := false, laid := [("perigee/crc.nibbles", laid_perigee_crc_nibbles)] }
def CrcLinearSaid : Prop := crcLinearRow.holds Tryd.pinned (OpenSpec.ofChange crcLinearSpec)

/-- ITS FALSE NEIGHBOUR: 'it returns false'. Refute it at one input. -/
def crcLinearWrong : ChangeSpec := { name := "crcLinear", fn := fun _ => fun
  | [d1, d2, d3] => { results := [.lit (.bool false)], args := [d1, d2, d3] }
  | _ => none }
def CrcLinearWrongFalsely : Prop := crcLinearRow.holds Tryd.pinned (OpenSpec.ofChange crcLinearWrong)

/-- 'perigeelaw03.CrcBursts': WHATEVER THE INPUT: true; the input reads as it did. -/
def crcBurstsSpec : ChangeSpec := { name := "crcBursts", fn := fun _ => fun
  | [d1, d2, d3] => { results := [.lit (.bool true)], args := [d1, d2, d3] }
  | _ => none }
def crcBurstsRow : OpenClaim := { program := "ytegdlgnofbjjcaadoor", sum := "78e1461718c93a3c88819261f47aefd09afbbae318a4e200aeee24fa0e751bbb", func := "perigee/perigeelaw03.CrcBursts", spec := "crcBursts", named := ["perigee/crc.nibbles"], apart := false, laid := [("perigee/crc.nibbles", laid_perigee_crc_nibbles)] }
def CrcBurstsSaid : Prop := crcBurstsRow.holds Tryd.pinned (OpenSpec.ofChange crcBurstsSpec)

/-- ITS FALSE NEIGHBOUR: 'it returns false'. Refute it at one input. -/
def crcBurstsWrong : ChangeSpec := { name := "crcBursts", fn := fun _ => fun
  | [d1, d2, d3] => { results := [.lit (.bool false)], args := [d1, d2, d3] }
  | _ => none }
def CrcBurstsWrongFalsely : Prop := crcBurstsRow.holds Tryd.pinned (OpenSpec.ofChange crcBurstsWrong)

/-- 'perigeelaw03.CrcTwoBits': WHATEVER THE INPUT: true; the input reads as it did. -/
def crcTwoBitsSpec : ChangeSpec := { name := "crcTwoBits", fn := fun _ => fun
  | [d1, d2, d3] => { results := [.lit (.bool true)], args := [d1, d2, d3] }
  | _ => none }
def crcTwoBitsRow : OpenClaim := { program := "ytegdlgnofbjjcaadoor", sum := "78e1461718c93a3c88819261f47aefd09afbbae318a4e200aeee24fa0e751bbb", func := "perigee/perigeelaw03.CrcTwoBits", spec := "crcTwoBits", named := ["perigee/crc.nibbles"], apart := false, laid := [("perigee/crc.nibbles", laid_perigee_crc_nibbles)] }
def CrcTwoBitsSaid : Prop := crcTwoBitsRow.holds Tryd.pinned (OpenSpec.ofChange crcTwoBitsSpec)

/-- ITS FALSE NEIGHBOUR: 'it returns false'. Refute it at one input. -/
def crcTwoBitsWrong : ChangeSpec := { name := "crcTwoBits", fn := fun _ => fun
  | [d1, d2, d3] => { results := [.lit (.bool false)], args := [d1, d2, d3] }
  | _ => none }
def CrcTwoBitsWrongFalsely : Prop := crcTwoBitsRow.holds Tryd.pinned (OpenSpec.ofChange crcTwoBitsWrong)

/-- 'perigeelaw03.CrcJoins': WHATEVER THE INPUT: true; the input reads as it did. -/
def crcJoinsSpec : ChangeSpec := { name := "crcJoins", fn := fun _ => fun
  | [d1, d2, d3] => { results := [.lit (.bool true)], args := [d1, d2, d3] }
  | _ => none }
def crcJoinsRow : OpenClaim := { program := "ytegdlgnofbjjcaadoor", sum := "78e1461718c93a3c88819261f47aefd09afbbae318a4e200aeee24fa0e751bbb", func := "perigee/perigeelaw03.CrcJoins", spec := "crcJoins", named := ["perigee/crc.nibbles"], apart := false, laid := [("perigee/crc.nibbles", laid_perigee_crc_nibbles)] }
def CrcJoinsSaid : Prop := crcJoinsRow.holds Tryd.pinned (OpenSpec.ofChange crcJoinsSpec)

/-- ITS FALSE NEIGHBOUR: 'it returns false'. Refute it at one input. -/
def crcJoinsWrong : ChangeSpec := { name := "crcJoins", fn := fun _ => fun
  | [d1, d2, d3] => { results := [.lit (.bool false)], args := [d1, d2, d3] }
  | _ => none }
def CrcJoinsWrongFalsely : Prop := crcJoinsRow.holds Tryd.pinned (OpenSpec.ofChange crcJoinsWrong)

/-- 'perigeelaw03.CrcZeros': WHATEVER THE INPUT: true; the input reads as it did. -/
def crcZerosSpec : ChangeSpec := { name := "crcZeros", fn := fun _ => fun
  | [d1, d2, d3, d4] => { results := [.lit (.bool true)], args := [d1, d2, d3, d4] }
  | _ => none }
def crcZerosRow : OpenClaim := { program := "ytegdlgnofbjjcaadoor", sum := "78e1461718c93a3c88819261f47aefd09afbbae318a4e200aeee24fa0e751bbb", func := "perigee/perigeelaw03.CrcZeros", spec := "crcZeros", named := ["perigee/crc.nibbles"], apart := false, laid := [("perigee/crc.nibbles", laid_perigee_crc_nibbles)] }
def CrcZerosSaid : Prop := crcZerosRow.holds Tryd.pinned (OpenSpec.ofChange crcZerosSpec)

/-- ITS FALSE NEIGHBOUR: 'it returns false'. Refute it at one input. -/
def crcZerosWrong : ChangeSpec := { name := "crcZeros", fn := fun _ => fun
  | [d1, d2, d3, d4] => { results := [.lit (.bool false)], args := [d1, d2, d3, d4] }
  | _ => none }
def CrcZerosWrongFalsely : Prop := crcZerosRow.holds Tryd.pinned (OpenSpec.ofChange crcZerosWrong)

/-- 'perigeelaw03.CrcWire': WHATEVER THE INPUT: true; the input reads as it did. -/
def crcWireSpec : ChangeSpec := { name := "crcWire", fn := fun _ => fun
  | [d1, d2, d3] => { results := [.lit (.bool true)], args := [d1, d2, d3] }
  | _ => none }
def crcWireRow : OpenClaim := { program := "ytegdlgnofbjjcaadoor", sum := "78e1461718c93a3c88819261f47aefd09afbbae318a4e200aeee24fa0e751bbb", func := "perigee/perigeelaw03.CrcWire", spec := "crcWire", named := ["perigee/crc.nibbles"], apart := false, laid := [("perigee/crc.nibbles", laid_perigee_crc_nibbles)] }
def CrcWireSaid : Prop := crcWireRow.holds Tryd.pinned (OpenSpec.ofChange crcWireSpec)

/-- ITS FALSE NEIGHBOUR: 'it returns false'. Refute it at one input. -/
def crcWireWrong : ChangeSpec := { name := "crcWire", fn := fun _ => fun
  | [d1, d2, d3] => { results := [.lit (.bool false)], args := [d1, d2, d3] }
  | _ => none }
def CrcWireWrongFalsely : Prop := crcWireRow.holds Tryd.pinned (OpenSpec.ofChange crcWireWrong)

/- THE SECOND FORM. 'bulk': how many values and letters a reading holds, each counted each time it is reached (what is shared counts as often as it is met; a slice's spare places count too). A statement '..UptoSaid' is the law's where the arguments, and the package variables that the reading takes, are together of bulk at most 1048576: NARROWER than '..Said'. Prove '..Said' where nothing that the law and all that it calls make is longer than what came in: it says more and counts as full. Else prove '..UptoSaid'. A law counts once. -/
mutual
def uptoBulk {H : Type} : DataW H → Nat
  | .lit (.string bytes) => bytes.length + 1
  | .lit _ => 1
  | .nil => 1
  | .ptr d => uptoBulk d + 1
  | .slice elems spare => uptoBulkAll elems + uptoBulkAll spare + 1
  | .agg parts => uptoBulkAll parts + 1
  | .iface _ d => uptoBulk d + 1
  | .map entries => uptoBulkEntries entries + 1
  | .held _ => 1
def uptoBulkAll {H : Type} : List (DataW H) → Nat
  | [] => 0
  | d :: r => uptoBulk d + uptoBulkAll r
def uptoBulkEntries {H : Type} : List (Lit × DataW H) → Nat
  | [] => 0
  | x :: r => uptoBulkEntry x + uptoBulkEntries r
def uptoBulkEntry {H : Type} : Lit × DataW H → Nat
  | (.string bytes, d) => bytes.length + uptoBulk d + 1
  | (_, d) => uptoBulk d + 1
 end
def uptoSmall : (H : Type) → List (DataW H) → Bool := fun _ ds => decide (uptoBulkAll ds ≤ 1048576)
def OpenSpec.upto (s : _root_.Go.ChangeSpec) : _root_.Go.OpenSpec := { _root_.Go.OpenSpec.ofChange s with cond := some uptoSmall }

/-- 'perigeelaw03.CrcSum', WHERE WHAT IT READS IS OF BULK AT MOST 1048576: true; the input reads as it did. -/
def crcSumUptoRow : OpenClaim := { program := "ytegdlgnofbjjcaadoor", sum := "78e1461718c93a3c88819261f47aefd09afbbae318a4e200aeee24fa0e751bbb", func := "perigee/perigeelaw03.CrcSum", spec := "crcSum", named := ["perigee/crc.nibbles"], apart := false, laid := [("perigee/crc.nibbles", laid_perigee_crc_nibbles)], narrowed := true }
def CrcSumUptoSaid : Prop := crcSumUptoRow.holds Tryd.pinned (OpenSpec.upto crcSumSpec)

/-- 'perigeelaw03.CrcCombine', WHERE WHAT IT READS IS OF BULK AT MOST 1048576: true; the input reads as it did. -/
def crcCombineUptoRow : OpenClaim := { program := "ytegdlgnofbjjcaadoor", sum := "78e1461718c93a3c88819261f47aefd09afbbae318a4e200aeee24fa0e751bbb", func := "perigee/perigeelaw03.CrcCombine", spec := "crcCombine", named := ["perigee/crc.nibbles"], apart := false, laid := [("perigee/crc.nibbles", laid_perigee_crc_nibbles)], narrowed := true }
def CrcCombineUptoSaid : Prop := crcCombineUptoRow.holds Tryd.pinned (OpenSpec.upto crcCombineSpec)

/-- 'perigeelaw03.CrcSeals', WHERE WHAT IT READS IS OF BULK AT MOST 1048576: true; the input reads as it did. -/
def crcSealsUptoRow : OpenClaim := { program := "ytegdlgnofbjjcaadoor", sum := "78e1461718c93a3c88819261f47aefd09afbbae318a4e200aeee24fa0e751bbb", func := "perigee/perigeelaw03.CrcSeals", spec := "crcSeals", named := ["perigee/crc.nibbles"], apart := false, laid := [("perigee/crc.nibbles", laid_perigee_crc_nibbles)], narrowed := true }
def CrcSealsUptoSaid : Prop := crcSealsUptoRow.holds Tryd.pinned (OpenSpec.upto crcSealsSpec)

/-- 'perigeelaw03.CrcResidue', WHERE WHAT IT READS IS OF BULK AT MOST 1048576: true; the input reads as it did. -/
def crcResidueUptoRow : OpenClaim := { program := "ytegdlgnofbjjcaadoor", sum := "78e1461718c93a3c88819261f47aefd09afbbae318a4e200aeee24fa0e751bbb", func := "perigee/perigeelaw03.CrcResidue", spec := "crcResidue", named := ["perigee/crc.nibbles"], apart := false, laid := [("perigee/crc.nibbles", laid_perigee_crc_nibbles)], narrowed := true }
def CrcResidueUptoSaid : Prop := crcResidueUptoRow.holds Tryd.pinned (OpenSpec.upto crcResidueSpec)

/-- 'perigeelaw03.CrcLinear', WHERE WHAT IT READS IS OF BULK AT MOST 1048576: true; the input reads as it did. -/
def crcLinearUptoRow : OpenClaim := { program := "ytegdlgnofbjjcaadoor", sum := "78e1461718c93a3c88819261f47aefd09afbbae318a4e200aeee24fa0e751bbb", func := "perigee/perigeelaw03.CrcLinear", spec := "crcLinear", named := ["perigee/crc.nibbles"], apart := false, laid := [("perigee/crc.nibbles", laid_perigee_crc_nibbles)], narrowed := true }
def CrcLinearUptoSaid : Prop := crcLinearUptoRow.holds Tryd.pinned (OpenSpec.upto crcLinearSpec)

/-- 'perigeelaw03.CrcBursts', WHERE WHAT IT READS IS OF BULK AT MOST 1048576: true; the input reads as it did. -/
def crcBurstsUptoRow : OpenClaim := { program := "ytegdlgnofbjjcaadoor", sum := "78e1461718c93a3c88819261f47aefd09afbbae318a4e200aeee24fa0e751bbb", func := "perigee/perigeelaw03.CrcBursts", spec := "crcBursts", named := ["perigee/crc.nibbles"], apart := false, laid := [("perigee/crc.nibbles", laid_perigee_crc_nibbles)], narrowed := true }
def CrcBurstsUptoSaid : Prop := crcBurstsUptoRow.holds Tryd.pinned (OpenSpec.upto crcBurstsSpec)

/-- 'perigeelaw03.CrcTwoBits', WHERE WHAT IT READS IS OF BULK AT MOST 1048576: true; the input reads as it did. -/
def crcTwoBitsUptoRow : OpenClaim := { program := "ytegdlgnofbjjcaadoor", sum := "78e1461718c93a3c88819261f47aefd09afbbae318a4e200aeee24fa0e751bbb", func := "perigee/perigeelaw03.CrcTwoBits", spec := "crcTwoBits", named := ["perigee/crc.nibbles"], apart := false, laid := [("perigee/crc.nibbles", laid_perigee_crc_nibbles)], narrowed := true }
def CrcTwoBitsUptoSaid : Prop := crcTwoBitsUptoRow.holds Tryd.pinned (OpenSpec.upto crcTwoBitsSpec)

/-- 'perigeelaw03.CrcJoins', WHERE WHAT IT READS IS OF BULK AT MOST 1048576: true; the input reads as it did. -/
def crcJoinsUptoRow : OpenClaim := { program := "ytegdlgnofbjjcaadoor", sum := "78e1461718c93a3c88819261f47aefd09afbbae318a4e200aeee24fa0e751bbb", func := "perigee/perigeelaw03.CrcJoins", spec := "crcJoins", named := ["perigee/crc.nibbles"], apart := false, laid := [("perigee/crc.nibbles", laid_perigee_crc_nibbles)], narrowed := true }
def CrcJoinsUptoSaid : Prop := crcJoinsUptoRow.holds Tryd.pinned (OpenSpec.upto crcJoinsSpec)

/-- 'perigeelaw03.CrcZeros', WHERE WHAT IT READS IS OF BULK AT MOST 1048576: true; the input reads as it did. -/
def crcZerosUptoRow : OpenClaim := { program := "ytegdlgnofbjjcaadoor", sum := "78e1461718c93a3c88819261f47aefd09afbbae318a4e200aeee24fa0e751bbb", func := "perigee/perigeelaw03.CrcZeros", spec := "crcZeros", named := ["perigee/crc.nibbles"], apart := false, laid := [("perigee/crc.nibbles", laid_perigee_crc_nibbles)], narrowed := true }
def CrcZerosUptoSaid : Prop := crcZerosUptoRow.holds Tryd.pinned (OpenSpec.upto crcZerosSpec)

/-- 'perigeelaw03.CrcWire', WHERE WHAT IT READS IS OF BULK AT MOST 1048576: true; the input reads as it did. -/
def crcWireUptoRow : OpenClaim := { program := "ytegdlgnofbjjcaadoor", sum := "78e1461718c93a3c88819261f47aefd09afbbae318a4e200aeee24fa0e751bbb", func := "perigee/perigeelaw03.CrcWire", spec := "crcWire", named := ["perigee/crc.nibbles"], apart := false, laid := [("perigee/crc.nibbles", laid_perigee_crc_nibbles)], narrowed := true }
def CrcWireUptoSaid : Prop := crcWireUptoRow.holds Tryd.pinned (OpenSpec.upto crcWireSpec)

end Rows
end Go.Proofs.YtegdlgnofbjjcaaDoor
