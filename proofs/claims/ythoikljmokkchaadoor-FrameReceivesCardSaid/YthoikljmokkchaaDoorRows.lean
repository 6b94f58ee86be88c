/-
  NARROWER THAN 'FOR EVERY INPUT', by the rows' own cells (each row's printed sentence says how): FrameEncodes: laid · FrameReceives: laid · FrameOnce: laid · FrameOrder: laid · FrameCompletes: laid · FrameSends: laid · FrameUnlocks: laid · FrameDecodes: laid · FrameRound: laid · FrameForged: laid.
  DERIVED. THE GIVEN ROWS OF THIS SEAT. 10 by the template 'for every input the law returns true; each argument reads behind the call as it read before'; 0 by the template 'total and deterministic' (their statements: YthoikljmokkchaaDoorTotals.lean).
  GIVEN WITH THE SEED: the statements are not yours to turn. If you find one false, say at which input.
  Laid BY PROGRAM, IN A SANDBOX (cutbox-rows.mjs): the forced cells as the released guide's own fill.sh prints them over the translation 76a953b062ec7c4d… (all of the seat's roots in one cut). By AI agents, Wed Nov 11 2026. No macro, syntax, notation, axiom, sorry.
-/
import Derived.Test.YthoikljmokkchaaDoorChecked
import GoSem.Claim
import GoSem.ClaimJoined
import GoSem.ClaimMapViews
import Derived.JoinedTies
import Derived.KernelRfl
namespace Go.Proofs.YthoikljmokkchaaDoor
/- THE CELL 'sum', in the pinned program and in every row, IS THE sha256 OF THE DUMP (.gsa) THAT YthoikljmokkchaaDoorProg.lean LOADS. Nothing in Lean hashes anything: it is a label: what it is worth is what the hold of that sum in a sandbox is worth. -/
noncomputable def Tryd.pinned : Pinned := { name := "ythoikljmokkchaadoor", sum := "76a953b062ec7c4d10de3303e5d2374e67f5028ebf9b1dcd3c32eb6820414ff4", checked := Tryd.checked }
namespace Rows
def none {H : Type} : Left H := { results := [], args := [] }

/- WHAT THE LISTED PACKAGE-LEVEL VARIABLES READ AS WHEN THE CALL BEGINS. Each datum BY PROGRAM (the guide's laid-datum.mjs) off the statement by which the dump's own 'gosem.cut.vars' lays the variable. In a bare row this is a premise. The card (YthoikljmokkchaaDoorCards.lean) ties it to the program's text. -/
def laid_perigee_crc_nibbles {H : Type} : DataW H := .agg [.lit (.int .u32 0), .lit (.int .u32 498536548), .lit (.int .u32 997073096), .lit (.int .u32 651767980), .lit (.int .u32 1994146192), .lit (.int .u32 1802195444), .lit (.int .u32 1303535960), .lit (.int .u32 1342533948), .lit (.int .u32 3988292384), .lit (.int .u32 4027552580), .lit (.int .u32 3604390888), .lit (.int .u32 3412177804), .lit (.int .u32 2607071920), .lit (.int .u32 2262029012), .lit (.int .u32 2685067896), .lit (.int .u32 3183342108)]

/-- 'perigeelaw20.FrameEncodes': WHATEVER THE INPUT: true; the input reads as it did. -/
def frameEncodesSpec : ChangeSpec := { name := "frameEncodes", fn := fun _ => fun
  | [d] => { results := [.lit (.bool true)], args := [d] }
  | _ => none }
def frameEncodesRow : OpenClaim := { program := "ythoikljmokkchaadoor", sum := "76a953b062ec7c4d10de3303e5d2374e67f5028ebf9b1dcd3c32eb6820414ff4", func := "perigee/perigeelaw20.FrameEncodes", spec := "frameEncodes", unfollowed := true, recurses := true, named := ["perigee/crc.nibbles"], apart := false, laid := [("perigee/crc.nibbles", laid_perigee_crc_nibbles)] }
def FrameEncodesSaid : Prop := frameEncodesRow.holds Tryd.pinned (OpenSpec.ofChange frameEncodesSpec)

/-- ITS FALSE NEIGHBOUR: 'it returns false'. Refute it at one input. -/
def frameEncodesWrong : ChangeSpec := { name := "frameEncodes", fn := fun _ => fun
  | [d] => { results := [.lit (.bool false)], args := [d] }
  | _ => none }
def FrameEncodesWrongFalsely : Prop := frameEncodesRow.holds Tryd.pinned (OpenSpec.ofChange frameEncodesWrong)

/-- 'perigeelaw20.FrameReceives': WHATEVER THE INPUT: true; the input reads as it did. -/
def frameReceivesSpec : ChangeSpec := { name := "frameReceives", fn := fun _ => fun
  | [d1, d2] => { results := [.lit (.bool true)], args := [d1, d2] }
  | _ => none }
def frameReceivesRow : OpenClaim := { program := "ythoikljmokkchaadoor", sum := "76a953b062ec7c4d10de3303e5d2374e67f5028ebf9b1dcd3c32eb6820414ff4", func := "perigee/perigeelaw20.FrameReceives", spec := "frameReceives", unfollowed := true, recurses := true, named := ["perigee/crc.nibbles"], apart := false, laid := [("perigee/crc.nibbles", laid_perigee_crc_nibbles)] }
def FrameReceivesSaid : Prop := frameReceivesRow.holds Tryd.pinned (OpenSpec.ofChange frameReceivesSpec)

/-- ITS FALSE NEIGHBOUR: 'it returns false'. Refute it at one input. -/
def frameReceivesWrong : ChangeSpec := { name := "frameReceives", fn := fun _ => fun
  | [d1, d2] => { results := [.lit (.bool false)], args := [d1, d2] }
  | _ => none }
def FrameReceivesWrongFalsely : Prop := frameReceivesRow.holds Tryd.pinned (OpenSpec.ofChange frameReceivesWrong)

/-- 'perigeelaw20.FrameOnce': WHATEVER THE INPUT: true; the input reads as it did. -/
def frameOnceSpec : ChangeSpec := { name := "frameOnce", fn := fun _ => fun
  | [d1, d2] => { results := [.lit (.bool true)], args := [d1, d2] }
  | _ => none }
def frameOnceRow : OpenClaim := { program := "ythoikljmokkchaadoor", sum := "76a953b062ec7c4d10de3303e5d2374e67f5028ebf9b1dcd3c32eb6820414ff4", func := "perigee/perigeelaw20.FrameOnce", spec := "frameOnce", unfollowed := true, recurses := true, named := ["perigee/crc.nibbles"], apart := false, laid := [("perigee/crc.nibbles", laid_perigee_crc_nibbles)] }
def FrameOnceSaid : Prop := frameOnceRow.holds Tryd.pinned (OpenSpec.ofChange frameOnceSpec)

/-- ITS FALSE NEIGHBOUR: 'it returns false'. Refute it at one input. -/
def frameOnceWrong : ChangeSpec := { name := "frameOnce", fn := fun _ => fun
  | [d1, d2] => { results := [.lit (.bool false)], args := [d1, d2] }
  | _ => none }
def FrameOnceWrongFalsely : Prop := frameOnceRow.holds Tryd.pinned (OpenSpec.ofChange frameOnceWrong)

/-- 'perigeelaw20.FrameOrder': WHATEVER THE INPUT: true; the input reads as it did. -/
def frameOrderSpec : ChangeSpec := { name := "frameOrder", fn := fun _ => fun
  | [d1, d2] => { results := [.lit (.bool true)], args := [d1, d2] }
  | _ => none }
def frameOrderRow : OpenClaim := { program := "ythoikljmokkchaadoor", sum := "76a953b062ec7c4d10de3303e5d2374e67f5028ebf9b1dcd3c32eb6820414ff4", func := "perigee/perigeelaw20.FrameOrder", spec := "frameOrder", unfollowed := true, recurses := true, named := ["perigee/crc.nibbles"], apart := false, laid := [("perigee/crc.nibbles", laid_perigee_crc_nibbles)] }
def FrameOrderSaid : Prop := frameOrderRow.holds Tryd.pinned (OpenSpec.ofChange frameOrderSpec)

/-- ITS FALSE NEIGHBOUR: 'it returns false'. Refute it at one input. -/
def frameOrderWrong : ChangeSpec := { name := "frameOrder", fn := fun _ => fun
  | [d1, d2] => { results := [.lit (.bool false)], args := [d1, d2] }
  | _ => none }
def FrameOrderWrongFalsely : Prop := frameOrderRow.holds Tryd.pinned (OpenSpec.ofChange frameOrderWrong)

/-- 'perigeelaw20.FrameCompletes': WHATEVER THE INPUT: true; the input reads as it did. -/
def frameCompletesSpec : ChangeSpec := { name := "frameCompletes", fn := fun _ => fun
  | [d1, d2, d3] => { results := [.lit (.bool true)], args := [d1, d2, d3] }
  | _ => none }
def frameCompletesRow : OpenClaim := { program := "ythoikljmokkchaadoor", sum := "76a953b062ec7c4d10de3303e5d2374e67f5028ebf9b1dcd3c32eb6820414ff4", func := "perigee/perigeelaw20.FrameCompletes", spec := "frameCompletes", unfollowed := true, recurses := true, named := ["perigee/crc.nibbles"], apart := false, laid := [("perigee/crc.nibbles", laid_perigee_crc_nibbles)] }
def FrameCompletesSaid : Prop := frameCompletesRow.holds Tryd.pinned (OpenSpec.ofChange frameCompletesSpec)

/-- ITS FALSE NEIGHBOUR: 'it returns false'. Refute it at one input. -/
def frameCompletesWrong : ChangeSpec := { name := "frameCompletes", fn := fun _ => fun
  | [d1, d2, d3] => { results := [.lit (.bool false)], args := [d1, d2, d3] }
  | _ => none }
def FrameCompletesWrongFalsely : Prop := frameCompletesRow.holds Tryd.pinned (OpenSpec.ofChange frameCompletesWrong)

/-- 'perigeelaw20.FrameSends': WHATEVER THE INPUT: true; the input reads as it did. -/
def frameSendsSpec : ChangeSpec := { name := "frameSends", fn := fun _ => fun
  | [d1, d2] => { results := [.lit (.bool true)], args := [d1, d2] }
  | _ => none }
def frameSendsRow : OpenClaim := { program := "ythoikljmokkchaadoor", sum := "76a953b062ec7c4d10de3303e5d2374e67f5028ebf9b1dcd3c32eb6820414ff4", func := "perigee/perigeelaw20.FrameSends", spec := "frameSends", unfollowed := true, recurses := true, named := ["perigee/crc.nibbles"], apart := false, laid := [("perigee/crc.nibbles", laid_perigee_crc_nibbles)] }
def FrameSendsSaid : Prop := frameSendsRow.holds Tryd.pinned (OpenSpec.ofChange frameSendsSpec)

/-- ITS FALSE NEIGHBOUR: 'it returns false'. Refute it at one input. -/
def frameSendsWrong : ChangeSpec := { name := "frameSends", fn := fun _ => fun
  | [d1, d2] => { results := [.lit (.bool false)], args := [d1, d2] }
  | _ => none }
def FrameSendsWrongFalsely : Prop := frameSendsRow.holds Tryd.pinned (OpenSpec.ofChange frameSendsWrong)

/-- 'perigeelaw20.FrameUnlocks': WHATEVER THE INPUT: true; the input reads as it did. -/
def frameUnlocksSpec : ChangeSpec := { name := "frameUnlocks", fn := fun _ => fun
  | [d1, d2, d3] => { results := [.lit (.bool true)], args := [d1, d2, d3] }
  | _ => none }
def frameUnlocksRow : OpenClaim := { program := "ythoikljmokkchaadoor", sum := "76a953b062ec7c4d10de3303e5d2374e67f5028ebf9b1dcd3c32eb6820414ff4", func := "perigee/perigeelaw20.FrameUnlocks", spec := "frameUnlocks", unfollowed := true, recurses := true, named := ["perigee/crc.nibbles"], apart := false, laid := [("perigee/crc.nibbles", laid_perigee_crc_nibbles)] }
def FrameUnlocksSaid : Prop := frameUnlocksRow.holds Tryd.pinned (OpenSpec.ofChange frameUnlocksSpec)

/-- ITS FALSE NEIGHBOUR: 'it returns false'. Refute it at one input. -/
def frameUnlocksWrong : ChangeSpec := { name := "frameUnlocks", fn := fun _ => fun
  | [d1, d2, d3] => { results := [.lit (.bool false)], args := [d1, d2, d3] }
  | _ => none }
def FrameUnlocksWrongFalsely : Prop := frameUnlocksRow.holds Tryd.pinned (OpenSpec.ofChange frameUnlocksWrong)

/-- 'perigeelaw20.FrameDecodes': WHATEVER THE INPUT: true; the input reads as it did. -/
def frameDecodesSpec : ChangeSpec := { name := "frameDecodes", fn := fun _ => fun
  | [d] => { results := [.lit (.bool true)], args := [d] }
  | _ => none }
def frameDecodesRow : OpenClaim := { program := "ythoikljmokkchaadoor", sum := "76a953b062ec7c4d10de3303e5d2374e67f5028ebf9b1dcd3c32eb6820414ff4", func := "perigee/perigeelaw20.FrameDecodes", spec := "frameDecodes", unfollowed := true, recurses := true, named := ["perigee/crc.nibbles"], apart := false, laid := [("perigee/crc.nibbles", laid_perigee_crc_nibbles)] }
def FrameDecodesSaid : Prop := frameDecodesRow.holds Tryd.pinned (OpenSpec.ofChange frameDecodesSpec)

/-- ITS FALSE NEIGHBOUR: 'it returns false'. Refute it at one input. -/
def frameDecodesWrong : ChangeSpec := { name := "frameDecodes", fn := fun _ => fun
  | [d] => { results := [.lit (.bool false)], args := [d] }
  | _ => none }
def FrameDecodesWrongFalsely : Prop := frameDecodesRow.holds Tryd.pinned (OpenSpec.ofChange frameDecodesWrong)

/-- 'perigeelaw20.FrameRound': WHATEVER THE INPUT: true; the input reads as it did. -/
def frameRoundSpec : ChangeSpec := { name := "frameRound", fn := fun _ => fun
  | [d] => { results := [.lit (.bool true)], args := [d] }
  | _ => none }
def frameRoundRow : OpenClaim := { program := "ythoikljmokkchaadoor", sum := "76a953b062ec7c4d10de3303e5d2374e67f5028ebf9b1dcd3c32eb6820414ff4", func := "perigee/perigeelaw20.FrameRound", spec := "frameRound", unfollowed := true, recurses := true, named := ["perigee/crc.nibbles"], apart := false, laid := [("perigee/crc.nibbles", laid_perigee_crc_nibbles)] }
def FrameRoundSaid : Prop := frameRoundRow.holds Tryd.pinned (OpenSpec.ofChange frameRoundSpec)

/-- ITS FALSE NEIGHBOUR: 'it returns false'. Refute it at one input. -/
def frameRoundWrong : ChangeSpec := { name := "frameRound", fn := fun _ => fun
  | [d] => { results := [.lit (.bool false)], args := [d] }
  | _ => none }
def FrameRoundWrongFalsely : Prop := frameRoundRow.holds Tryd.pinned (OpenSpec.ofChange frameRoundWrong)

/-- 'perigeelaw20.FrameForged': WHATEVER THE INPUT: true; the input reads as it did. -/
def frameForgedSpec : ChangeSpec := { name := "frameForged", fn := fun _ => fun
  | [d1, d2, d3, d4, d5] => { results := [.lit (.bool true)], args := [d1, d2, d3, d4, d5] }
  | _ => none }
def frameForgedRow : OpenClaim := { program := "ythoikljmokkchaadoor", sum := "76a953b062ec7c4d10de3303e5d2374e67f5028ebf9b1dcd3c32eb6820414ff4", func := "perigee/perigeelaw20.FrameForged", spec := "frameForged", unfollowed := true, recurses := true, named := ["perigee/crc.nibbles"], apart := false, laid := [("perigee/crc.nibbles", laid_perigee_crc_nibbles)] }
def FrameForgedSaid : Prop := frameForgedRow.holds Tryd.pinned (OpenSpec.ofChange frameForgedSpec)

/-- ITS FALSE NEIGHBOUR: 'it returns false'. Refute it at one input. -/
def frameForgedWrong : ChangeSpec := { name := "frameForged", fn := fun _ => fun
  | [d1, d2, d3, d4, d5] => { results := [.lit (.bool false)], args := [d1, d2, d3, d4, d5] }
  | _ => none }
def FrameForgedWrongFalsely : Prop := frameForgedRow.holds Tryd.pinned (OpenSpec.ofChange frameForgedWrong)

/- THE SECOND FORM. 'bulk': how many values and letters a reading holds, each counted each time it is reached (what is shared counts as often as it is met; a slice's spare places count too). A statement '..UptoSaid' is the law's where the arguments, and the package variables that the reading takes, are together of bulk at most 1048576: NARROWER than '..Said'. Prove '..Said' where nothing that the law and all that it calls make is longer than what came in: it says more and counts as full. Else prove '..UptoSaid'. A law counts once. -/
mutual
def uptoBulk {H : Type} : DataW H → Nat
  | .lit (.string bytes) => bytes.length + 1
  | .lit _ => 1
  | .nil => 1
  | .ptr d => uptoBulk d + 1
  | .slice elems spare => uptoBulkAll elems + uptoBulkAll spare + 1
  | .agg parts => uptoBulkAll parts + 1
  | .iface _ d => uptoBulk d + 1
  | .map entries => uptoBulkEntries entries + 1
  | .held _ => 1
def uptoBulkAll {H : Type} : List (DataW H) → Nat
  | [] => 0
  | d :: r => uptoBulk d + uptoBulkAll r
def uptoBulkEntries {H : Type} : List (Lit × DataW H) → Nat
  | [] => 0
  | x :: r => uptoBulkEntry x + uptoBulkEntries r
def uptoBulkEntry {H : Type} : Lit × DataW H → Nat
  | (.string bytes, d) => bytes.length + uptoBulk d + 1
  | (_, d) => uptoBulk d + 1
 end
def uptoSmall : (H : Type) → List (DataW H) → Bool := fun _ ds => decide (uptoBulkAll ds ≤ 1048576)
def OpenSpec.upto (s : _root_.Go.ChangeSpec) : _root_.Go.OpenSpec := { _root_.Go.OpenSpec.ofChange s with cond := some uptoSmall }

/-- 'perigeelaw20.FrameEncodes', WHERE WHAT IT READS IS OF BULK AT MOST 1048576: true; the input reads as it did. -/
def frameEncodesUptoRow : OpenClaim := { program := "ythoikljmokkchaadoor", sum := "76a953b062ec7c4d10de3303e5d2374e67f5028ebf9b1dcd3c32eb6820414ff4", func := "perigee/perigeelaw20.FrameEncodes", spec := "frameEncodes", unfollowed := true, recurses := true, named := ["perigee/crc.nibbles"], apart := false, laid := [("perigee/crc.nibbles", laid_perigee_crc_nibbles)], narrowed := true }
def FrameEncodesUptoSaid : Prop := frameEncodesUptoRow.holds Tryd.pinned (OpenSpec.upto frameEncodesSpec)

/-- 'perigeelaw20.FrameReceives', WHERE WHAT IT READS IS OF BULK AT MOST 1048576: true; the input reads as it did. -/
def frameReceivesUptoRow : OpenClaim := { program := "ythoikljmokkchaadoor", sum := "76a953b062ec7c4d10de3303e5d2374e67f5028ebf9b1dcd3c32eb6820414ff4", func := "perigee/perigeelaw20.FrameReceives", spec := "frameReceives", unfollowed := true, recurses := true, named := ["perigee/crc.nibbles"], apart := false, laid := [("perigee/crc.nibbles", laid_perigee_crc_nibbles)], narrowed := true }
def FrameReceivesUptoSaid : Prop := frameReceivesUptoRow.holds Tryd.pinned (OpenSpec.upto frameReceivesSpec)

/-- 'perigeelaw20.FrameOnce', WHERE WHAT IT READS IS OF BULK AT MOST 1048576: true; the input reads as it did. -/
def frameOnceUptoRow : OpenClaim := { program := "ythoikljmokkchaadoor", sum := "76a953b062ec7c4d10de3303e5d2374e67f5028ebf9b1dcd3c32eb6820414ff4", func := "perigee/perigeelaw20.FrameOnce", spec := "frameOnce", unfollowed := true, recurses := true, named := ["perigee/crc.nibbles"], apart := false, laid := [("perigee/crc.nibbles", laid_perigee_crc_nibbles)], narrowed := true }
def FrameOnceUptoSaid : Prop := frameOnceUptoRow.holds Tryd.pinned (OpenSpec.upto frameOnceSpec)

/-- 'perigeelaw20.FrameOrder', WHERE WHAT IT READS IS OF BULK AT MOST 1048576: true; the input reads as it did. -/
def frameOrderUptoRow : OpenClaim := { program := "ythoikljmokkchaadoor", sum := "76a953b062ec7c4d10de3303e5d2374e67f5028ebf9b1dcd3c32eb6820414ff4", func := "perigee/perigeelaw20.FrameOrder", spec := "frameOrder", unfollowed := true, recurses := true, named := ["perigee/crc.nibbles"], apart := false, laid := [("perigee/crc.nibbles", laid_perigee_crc_nibbles)], narrowed := true }
def FrameOrderUptoSaid : Prop := frameOrderUptoRow.holds Tryd.pinned (OpenSpec.upto frameOrderSpec)

/-- 'perigeelaw20.FrameCompletes', WHERE WHAT IT READS IS OF BULK AT MOST 1048576: true; the input reads as it did. -/
def frameCompletesUptoRow : OpenClaim := { program := "ythoikljmokkchaadoor", sum := "76a953b062ec7c4d10de3303e5d2374e67f5028ebf9b1dcd3c32eb6820414ff4", func := "perigee/perigeelaw20.FrameCompletes", spec := "frameCompletes", unfollowed := true, recurses := true, named := ["perigee/crc.nibbles"], apart := false, laid := [("perigee/crc.nibbles", laid_perigee_crc_nibbles)], narrowed := true }
def FrameCompletesUptoSaid : Prop := frameCompletesUptoRow.holds Tryd.pinned (OpenSpec.upto frameCompletesSpec)

/-- 'perigeelaw20.FrameSends', WHERE WHAT IT READS IS OF BULK AT MOST 1048576: true; the input reads as it did. -/
def frameSendsUptoRow : OpenClaim := { program := "ythoikljmokkchaadoor", sum := "76a953b062ec7c4d10de3303e5d2374e67f5028ebf9b1dcd3c32eb6820414ff4", func := "perigee/perigeelaw20.FrameSends", spec := "frameSends", unfollowed := true, recurses := true, named := ["perigee/crc.nibbles"], apart := false, laid := [("perigee/crc.nibbles", laid_perigee_crc_nibbles)], narrowed := true }
def FrameSendsUptoSaid : Prop := frameSendsUptoRow.holds Tryd.pinned (OpenSpec.upto frameSendsSpec)

/-- 'perigeelaw20.FrameUnlocks', WHERE WHAT IT READS IS OF BULK AT MOST 1048576: true; the input reads as it did. -/
def frameUnlocksUptoRow : OpenClaim := { program := "ythoikljmokkchaadoor", sum := "76a953b062ec7c4d10de3303e5d2374e67f5028ebf9b1dcd3c32eb6820414ff4", func := "perigee/perigeelaw20.FrameUnlocks", spec := "frameUnlocks", unfollowed := true, recurses := true, named := ["perigee/crc.nibbles"], apart := false, laid := [("perigee/crc.nibbles", laid_perigee_crc_nibbles)], narrowed := true }
def FrameUnlocksUptoSaid : Prop := frameUnlocksUptoRow.holds Tryd.pinned (OpenSpec.upto frameUnlocksSpec)

/-- 'perigeelaw20.FrameDecodes', WHERE WHAT IT READS IS OF BULK AT MOST 1048576: true; the input reads as it did. -/
def frameDecodesUptoRow : OpenClaim := { program := "ythoikljmokkchaadoor", sum := "76a953b062ec7c4d10de3303e5d2374e67f5028ebf9b1dcd3c32eb6820414ff4", func := "perigee/perigeelaw20.FrameDecodes", spec := "frameDecodes", unfollowed := true, recurses := true, named := ["perigee/crc.nibbles"], apart := false, laid := [("perigee/crc.nibbles", laid_perigee_crc_nibbles)], narrowed := true }
def FrameDecodesUptoSaid : Prop := frameDecodesUptoRow.holds Tryd.pinned (OpenSpec.upto frameDecodesSpec)

/-- 'perigeelaw20.FrameRound', WHERE WHAT IT READS IS OF BULK AT MOST 1048576: true; the input reads as it did. -/
def frameRoundUptoRow : OpenClaim := { program := "ythoikljmokkchaadoor", sum := "76a953b062ec7c4d10de3303e5d2374e67f5028ebf9b1dcd3c32eb6820414ff4", func := "perigee/perigeelaw20.FrameRound", spec := "frameRound", unfollowed := true, recurses := true, named := ["perigee/crc.nibbles"], apart := false, laid := [("perigee/crc.nibbles", laid_perigee_crc_nibbles)], narrowed := true }
def FrameRoundUptoSaid : Prop := frameRoundUptoRow.holds Tryd.pinned (OpenSpec.upto frameRoundSpec)

/-- 'perigeelaw20.FrameForged', WHERE WHAT IT READS IS OF BULK AT MOST 1048576: true; the input reads as it did. -/
def frameForgedUptoRow : OpenClaim := { program := "ythoikljmokkchaadoor", sum := "76a953b062ec7c4d10de3303e5d2374e67f5028ebf9b1dcd3c32eb6820414ff4", func := "perigee/perigeelaw20.FrameForged", spec := "frameForged", unfollowed := true, recurses := true, named := ["perigee/crc.nibbles"], apart := false, laid := [("perigee/crc.nibbles", laid_perigee_crc_nibbles)], narrowed := true }
def FrameForgedUptoSaid : Prop := frameForgedUptoRow.holds Tryd.pinned (OpenSpec.upto frameForgedSpec)

end Rows
end Go.Proofs.YthoikljmokkchaaDoor
