/-
  NARROWER THAN 'FOR EVERY INPUT', by the rows' own cells (each row's printed sentence says how): FileCuts: laid · FileAnswers: laid · FileOrder: laid · FileGaps: laid · FileSums: laid · FilePasses: laid · FilePuts: laid · FileRefuses: laid · FileLinks: laid.
  DERIVED. THE GIVEN ROWS OF THIS SEAT. 9 by the template 'for every input the law returns true; each argument reads behind the call as it read before'; 0 by the template 'total and deterministic' (their statements: YtgeicbjlichdgaaDoorTotals.lean).
  GIVEN WITH THE SEED: the statements are not yours to turn. If you find one false, say at which input.
  Laid BY PROGRAM, IN A SANDBOX (cutbox-rows.mjs): the forced cells as the released guide's own fill.sh prints them over the translation 7a59a87ba5d21a1c… (all of the seat's roots in one cut). By AI agents, Wed Nov 11 2026. No macro, syntax, notation, axiom, sorry.
-/
import Derived.Test.YtgeicbjlichdgaaDoorChecked
import GoSem.Claim
import GoSem.ClaimJoined
import GoSem.ClaimMapViews
import Derived.JoinedTies
import Derived.KernelRfl
namespace Go.Proofs.YtgeicbjlichdgaaDoor
/- THE CELL 'sum', in the pinned program and in every row, IS THE sha256 OF THE DUMP (.gsa) THAT YtgeicbjlichdgaaDoorProg.lean LOADS. Nothing in Lean hashes anything: it is a label: what it is worth is what the hold of that sum in a sandbox is worth. -/
noncomputable def Tryd.pinned : Pinned := { name := "ytgeicbjlichdgaadoor", sum := "7a59a87ba5d21a1c00702323d76016a9d08ed83719c3e47d2b998379e351c3d1", checked := Tryd.checked }
namespace Rows
def none {H : Type} : Left H := { results := [], args := [] }

/- WHAT THE LISTED PACKAGE-LEVEL VARIABLES READ AS WHEN THE CALL BEGINS. Each datum BY PROGRAM (the guide's laid-datum.mjs) off the statement by which the dump's own 'gosem.cut.vars' lays the variable. In a bare row this is a premise. The card (YtgeicbjlichdgaaDoorCards.lean) ties it to the program's text. -/
def laid_perigee_crc_nibbles {H : Type} : DataW H := .agg [.lit (.int .u32 0), .lit (.int .u32 498536548), .lit (.int .u32 997073096), .lit (.int .u32 651767980), .lit (.int .u32 1994146192), .lit (.int .u32 1802195444), .lit (.int .u32 1303535960), .lit (.int .u32 1342533948), .lit (.int .u32 3988292384), .lit (.int .u32 4027552580), .lit (.int .u32 3604390888), .lit (.int .u32 3412177804), .lit (.int .u32 2607071920), .lit (.int .u32 2262029012), .lit (.int .u32 2685067896), .lit (.int .u32 3183342108)]

/-- 'perigeelaw26.FileCuts': WHATEVER THE INPUT: true; the input reads as it did. -/
def fileCutsSpec : ChangeSpec := { name := "fileCuts", fn := fun _ => fun
  | [d1, d2, d3, d4] => { results := [.lit (.bool true)], args := [d1, d2, d3, d4] }
  | _ => none }
def fileCutsRow : OpenClaim := { program := "ytgeicbjlichdgaadoor", sum := "7a59a87ba5d21a1c00702323d76016a9d08ed83719c3e47d2b998379e351c3d1", func := "perigee/perigeelaw26.FileCuts", spec := "fileCuts", unfollowed := true, recurses := true, named := ["perigee/crc.nibbles"], apart := false, laid := [("perigee/crc.nibbles", laid_perigee_crc_nibbles)] }
def FileCutsSaid : Prop := fileCutsRow.holds Tryd.pinned (OpenSpec.ofChange fileCutsSpec)

/-- ITS FALSE NEIGHBOUR: 'it returns false'. Refute it at one input. -/
def fileCutsWrong : ChangeSpec := { name := "fileCuts", fn := fun _ => fun
  | [d1, d2, d3, d4] => { results := [.lit (.bool false)], args := [d1, d2, d3, d4] }
  | _ => none }
def FileCutsWrongFalsely : Prop := fileCutsRow.holds Tryd.pinned (OpenSpec.ofChange fileCutsWrong)

/-- 'perigeelaw26.FileAnswers': WHATEVER THE INPUT: true; the input reads as it did. -/
def fileAnswersSpec : ChangeSpec := { name := "fileAnswers", fn := fun _ => fun
  | [d1, d2, d3, d4] => { results := [.lit (.bool true)], args := [d1, d2, d3, d4] }
  | _ => none }
def fileAnswersRow : OpenClaim := { program := "ytgeicbjlichdgaadoor", sum := "7a59a87ba5d21a1c00702323d76016a9d08ed83719c3e47d2b998379e351c3d1", func := "perigee/perigeelaw26.FileAnswers", spec := "fileAnswers", unfollowed := true, recurses := true, named := ["perigee/crc.nibbles"], apart := false, laid := [("perigee/crc.nibbles", laid_perigee_crc_nibbles)] }
def FileAnswersSaid : Prop := fileAnswersRow.holds Tryd.pinned (OpenSpec.ofChange fileAnswersSpec)

/-- ITS FALSE NEIGHBOUR: 'it returns false'. Refute it at one input. -/
def fileAnswersWrong : ChangeSpec := { name := "fileAnswers", fn := fun _ => fun
  | [d1, d2, d3, d4] => { results := [.lit (.bool false)], args := [d1, d2, d3, d4] }
  | _ => none }
def FileAnswersWrongFalsely : Prop := fileAnswersRow.holds Tryd.pinned (OpenSpec.ofChange fileAnswersWrong)

/-- 'perigeelaw26.FileOrder': WHATEVER THE INPUT: true; the input reads as it did. -/
def fileOrderSpec : ChangeSpec := { name := "fileOrder", fn := fun _ => fun
  | [d1, d2, d3, d4] => { results := [.lit (.bool true)], args := [d1, d2, d3, d4] }
  | _ => none }
def fileOrderRow : OpenClaim := { program := "ytgeicbjlichdgaadoor", sum := "7a59a87ba5d21a1c00702323d76016a9d08ed83719c3e47d2b998379e351c3d1", func := "perigee/perigeelaw26.FileOrder", spec := "fileOrder", unfollowed := true, recurses := true, named := ["perigee/crc.nibbles"], apart := false, laid := [("perigee/crc.nibbles", laid_perigee_crc_nibbles)] }
def FileOrderSaid : Prop := fileOrderRow.holds Tryd.pinned (OpenSpec.ofChange fileOrderSpec)

/-- ITS FALSE NEIGHBOUR: 'it returns false'. Refute it at one input. -/
def fileOrderWrong : ChangeSpec := { name := "fileOrder", fn := fun _ => fun
  | [d1, d2, d3, d4] => { results := [.lit (.bool false)], args := [d1, d2, d3, d4] }
  | _ => none }
def FileOrderWrongFalsely : Prop := fileOrderRow.holds Tryd.pinned (OpenSpec.ofChange fileOrderWrong)

/-- 'perigeelaw26.FileGaps': WHATEVER THE INPUT: true; the input reads as it did. -/
def fileGapsSpec : ChangeSpec := { name := "fileGaps", fn := fun _ => fun
  | [d1, d2, d3, d4] => { results := [.lit (.bool true)], args := [d1, d2, d3, d4] }
  | _ => none }
def fileGapsRow : OpenClaim := { program := "ytgeicbjlichdgaadoor", sum := "7a59a87ba5d21a1c00702323d76016a9d08ed83719c3e47d2b998379e351c3d1", func := "perigee/perigeelaw26.FileGaps", spec := "fileGaps", unfollowed := true, recurses := true, named := ["perigee/crc.nibbles"], apart := false, laid := [("perigee/crc.nibbles", laid_perigee_crc_nibbles)] }
def FileGapsSaid : Prop := fileGapsRow.holds Tryd.pinned (OpenSpec.ofChange fileGapsSpec)

/-- ITS FALSE NEIGHBOUR: 'it returns false'. Refute it at one input. -/
def fileGapsWrong : ChangeSpec := { name := "fileGaps", fn := fun _ => fun
  | [d1, d2, d3, d4] => { results := [.lit (.bool false)], args := [d1, d2, d3, d4] }
  | _ => none }
def FileGapsWrongFalsely : Prop := fileGapsRow.holds Tryd.pinned (OpenSpec.ofChange fileGapsWrong)

/-- 'perigeelaw26.FileSums': WHATEVER THE INPUT: true; the input reads as it did. -/
def fileSumsSpec : ChangeSpec := { name := "fileSums", fn := fun _ => fun
  | [d1, d2, d3, d4, d5] => { results := [.lit (.bool true)], args := [d1, d2, d3, d4, d5] }
  | _ => none }
def fileSumsRow : OpenClaim := { program := "ytgeicbjlichdgaadoor", sum := "7a59a87ba5d21a1c00702323d76016a9d08ed83719c3e47d2b998379e351c3d1", func := "perigee/perigeelaw26.FileSums", spec := "fileSums", unfollowed := true, recurses := true, named := ["perigee/crc.nibbles"], apart := false, laid := [("perigee/crc.nibbles", laid_perigee_crc_nibbles)] }
def FileSumsSaid : Prop := fileSumsRow.holds Tryd.pinned (OpenSpec.ofChange fileSumsSpec)

/-- ITS FALSE NEIGHBOUR: 'it returns false'. Refute it at one input. -/
def fileSumsWrong : ChangeSpec := { name := "fileSums", fn := fun _ => fun
  | [d1, d2, d3, d4, d5] => { results := [.lit (.bool false)], args := [d1, d2, d3, d4, d5] }
  | _ => none }
def FileSumsWrongFalsely : Prop := fileSumsRow.holds Tryd.pinned (OpenSpec.ofChange fileSumsWrong)

/-- 'perigeelaw26.FilePasses': WHATEVER THE INPUT: true; the input reads as it did. -/
def filePassesSpec : ChangeSpec := { name := "filePasses", fn := fun _ => fun
  | [d1, d2, d3, d4] => { results := [.lit (.bool true)], args := [d1, d2, d3, d4] }
  | _ => none }
def filePassesRow : OpenClaim := { program := "ytgeicbjlichdgaadoor", sum := "7a59a87ba5d21a1c00702323d76016a9d08ed83719c3e47d2b998379e351c3d1", func := "perigee/perigeelaw26.FilePasses", spec := "filePasses", unfollowed := true, recurses := true, named := ["perigee/crc.nibbles"], apart := false, laid := [("perigee/crc.nibbles", laid_perigee_crc_nibbles)] }
def FilePassesSaid : Prop := filePassesRow.holds Tryd.pinned (OpenSpec.ofChange filePassesSpec)

/-- ITS FALSE NEIGHBOUR: 'it returns false'. Refute it at one input. -/
def filePassesWrong : ChangeSpec := { name := "filePasses", fn := fun _ => fun
  | [d1, d2, d3, d4] => { results := [.lit (.bool false)], args := [d1, d2, d3, d4] }
  | _ => none }
def FilePassesWrongFalsely : Prop := filePassesRow.holds Tryd.pinned (OpenSpec.ofChange filePassesWrong)

/-- 'perigeelaw26.FilePuts': WHATEVER THE INPUT: true; the input reads as it did. -/
def filePutsSpec : ChangeSpec := { name := "filePuts", fn := fun _ => fun
  | [d1, d2] => { results := [.lit (.bool true)], args := [d1, d2] }
  | _ => none }
def filePutsRow : OpenClaim := { program := "ytgeicbjlichdgaadoor", sum := "7a59a87ba5d21a1c00702323d76016a9d08ed83719c3e47d2b998379e351c3d1", func := "perigee/perigeelaw26.FilePuts", spec := "filePuts", unfollowed := true, recurses := true, named := ["perigee/crc.nibbles"], apart := false, laid := [("perigee/crc.nibbles", laid_perigee_crc_nibbles)] }
def FilePutsSaid : Prop := filePutsRow.holds Tryd.pinned (OpenSpec.ofChange filePutsSpec)

/-- ITS FALSE NEIGHBOUR: 'it returns false'. Refute it at one input. -/
def filePutsWrong : ChangeSpec := { name := "filePuts", fn := fun _ => fun
  | [d1, d2] => { results := [.lit (.bool false)], args := [d1, d2] }
  | _ => none }
def FilePutsWrongFalsely : Prop := filePutsRow.holds Tryd.pinned (OpenSpec.ofChange filePutsWrong)

/-- 'perigeelaw26.FileRefuses': WHATEVER THE INPUT: true; the input reads as it did. -/
def fileRefusesSpec : ChangeSpec := { name := "fileRefuses", fn := fun _ => fun
  | [d1, d2, d3, d4, d5] => { results := [.lit (.bool true)], args := [d1, d2, d3, d4, d5] }
  | _ => none }
def fileRefusesRow : OpenClaim := { program := "ytgeicbjlichdgaadoor", sum := "7a59a87ba5d21a1c00702323d76016a9d08ed83719c3e47d2b998379e351c3d1", func := "perigee/perigeelaw26.FileRefuses", spec := "fileRefuses", unfollowed := true, recurses := true, named := ["perigee/crc.nibbles"], apart := false, laid := [("perigee/crc.nibbles", laid_perigee_crc_nibbles)] }
def FileRefusesSaid : Prop := fileRefusesRow.holds Tryd.pinned (OpenSpec.ofChange fileRefusesSpec)

/-- ITS FALSE NEIGHBOUR: 'it returns false'. Refute it at one input. -/
def fileRefusesWrong : ChangeSpec := { name := "fileRefuses", fn := fun _ => fun
  | [d1, d2, d3, d4, d5] => { results := [.lit (.bool false)], args := [d1, d2, d3, d4, d5] }
  | _ => none }
def FileRefusesWrongFalsely : Prop := fileRefusesRow.holds Tryd.pinned (OpenSpec.ofChange fileRefusesWrong)

/-- 'perigeelaw26.FileLinks': WHATEVER THE INPUT: true; the input reads as it did. -/
def fileLinksSpec : ChangeSpec := { name := "fileLinks", fn := fun _ => fun
  | [d1, d2, d3, d4, d5] => { results := [.lit (.bool true)], args := [d1, d2, d3, d4, d5] }
  | _ => none }
def fileLinksRow : OpenClaim := { program := "ytgeicbjlichdgaadoor", sum := "7a59a87ba5d21a1c00702323d76016a9d08ed83719c3e47d2b998379e351c3d1", func := "perigee/perigeelaw26.FileLinks", spec := "fileLinks", unfollowed := true, recurses := true, named := ["perigee/crc.nibbles"], apart := false, laid := [("perigee/crc.nibbles", laid_perigee_crc_nibbles)] }
def FileLinksSaid : Prop := fileLinksRow.holds Tryd.pinned (OpenSpec.ofChange fileLinksSpec)

/-- ITS FALSE NEIGHBOUR: 'it returns false'. Refute it at one input. -/
def fileLinksWrong : ChangeSpec := { name := "fileLinks", fn := fun _ => fun
  | [d1, d2, d3, d4, d5] => { results := [.lit (.bool false)], args := [d1, d2, d3, d4, d5] }
  | _ => none }
def FileLinksWrongFalsely : Prop := fileLinksRow.holds Tryd.pinned (OpenSpec.ofChange fileLinksWrong)

/- THE SECOND FORM. 'bulk': how many values and letters a reading holds, each counted each time it is reached (what is shared counts as often as it is met; a slice's spare places count too). A statement '..UptoSaid' is the law's where the arguments, and the package variables that the reading takes, are together of bulk at most 1048576: NARROWER than '..Said'. Prove '..Said' where nothing that the law and all that it calls make is longer than what came in: it says more and counts as full. Else prove '..UptoSaid'. A law counts once. -/
mutual
def uptoBulk {H : Type} : DataW H → Nat
  | .lit (.string bytes) => bytes.length + 1
  | .lit _ => 1
  | .nil => 1
  | .ptr d => uptoBulk d + 1
  | .slice elems spare => uptoBulkAll elems + uptoBulkAll spare + 1
  | .agg parts => uptoBulkAll parts + 1
  | .iface _ d => uptoBulk d + 1
  | .map entries => uptoBulkEntries entries + 1
  | .held _ => 1
def uptoBulkAll {H : Type} : List (DataW H) → Nat
  | [] => 0
  | d :: r => uptoBulk d + uptoBulkAll r
def uptoBulkEntries {H : Type} : List (Lit × DataW H) → Nat
  | [] => 0
  | x :: r => uptoBulkEntry x + uptoBulkEntries r
def uptoBulkEntry {H : Type} : Lit × DataW H → Nat
  | (.string bytes, d) => bytes.length + uptoBulk d + 1
  | (_, d) => uptoBulk d + 1
 end
def uptoSmall : (H : Type) → List (DataW H) → Bool := fun _ ds => decide (uptoBulkAll ds ≤ 1048576)
def OpenSpec.upto (s : _root_.Go.ChangeSpec) : _root_.Go.OpenSpec := { _root_.Go.OpenSpec.ofChange s with cond := some uptoSmall }

/-- 'perigeelaw26.FileCuts', WHERE WHAT IT READS IS OF BULK AT MOST 1048576: true; the input reads as it did. -/
def fileCutsUptoRow : OpenClaim := { program := "ytgeicbjlichdgaadoor", sum := "7a59a87ba5d21a1c00702323d76016a9d08ed83719c3e47d2b998379e351c3d1", func := "perigee/perigeelaw26.FileCuts", spec := "fileCuts", unfollowed := true, recurses := true, named := ["perigee/crc.nibbles"], apart := false, laid := [("perigee/crc.nibbles", laid_perigee_crc_nibbles)], narrowed := true }
def FileCutsUptoSaid : Prop := fileCutsUptoRow.holds Tryd.pinned (OpenSpec.upto fileCutsSpec)

/-- 'perigeelaw26.FileAnswers', WHERE WHAT IT READS IS OF BULK AT MOST 1048576: true; the input reads as it did. -/
def fileAnswersUptoRow : OpenClaim := { program := "ytgeicbjlichdgaadoor", sum := "7a59a87ba5d21a1c00702323d76016a9d08ed83719c3e47d2b998379e351c3d1", func := "perigee/perigeelaw26.FileAnswers", spec := "fileAnswers", unfollowed := true, recurses := true, named := ["perigee/crc.nibbles"], apart := false, laid := [("perigee/crc.nibbles", laid_perigee_crc_nibbles)], narrowed := true }
def FileAnswersUptoSaid : Prop := fileAnswersUptoRow.holds Tryd.pinned (OpenSpec.upto fileAnswersSpec)

/-- 'perigeelaw26.FileOrder', WHERE WHAT IT READS IS OF BULK AT MOST 1048576: true; the input reads as it did. -/
def fileOrderUptoRow : OpenClaim := { program := "ytgeicbjlichdgaadoor", sum := "7a59a87ba5d21a1c00702323d76016a9d08ed83719c3e47d2b998379e351c3d1", func := "perigee/perigeelaw26.FileOrder", spec := "fileOrder", unfollowed := true, recurses := true, named := ["perigee/crc.nibbles"], apart := false, laid := [("perigee/crc.nibbles", laid_perigee_crc_nibbles)], narrowed := true }
def FileOrderUptoSaid : Prop := fileOrderUptoRow.holds Tryd.pinned (OpenSpec.upto fileOrderSpec)

/-- 'perigeelaw26.FileGaps', WHERE WHAT IT READS IS OF BULK AT MOST 1048576: true; the input reads as it did. -/
def fileGapsUptoRow : OpenClaim := { program := "ytgeicbjlichdgaadoor", sum := "7a59a87ba5d21a1c00702323d76016a9d08ed83719c3e47d2b998379e351c3d1", func := "perigee/perigeelaw26.FileGaps", spec := "fileGaps", unfollowed := true, recurses := true, named := ["perigee/crc.nibbles"], apart := false, laid := [("perigee/crc.nibbles", laid_perigee_crc_nibbles)], narrowed := true }
def FileGapsUptoSaid : Prop := fileGapsUptoRow.holds Tryd.pinned (OpenSpec.upto fileGapsSpec)

/-- 'perigeelaw26.FileSums', WHERE WHAT IT READS IS OF BULK AT MOST 1048576: true; the input reads as it did. -/
def fileSumsUptoRow : OpenClaim := { program := "ytgeicbjlichdgaadoor", sum := "7a59a87ba5d21a1c00702323d76016a9d08ed83719c3e47d2b998379e351c3d1", func := "perigee/perigeelaw26.FileSums", spec := "fileSums", unfollowed := true, recurses := true, named := ["perigee/crc.nibbles"], apart := false, laid := [("perigee/crc.nibbles", laid_perigee_crc_nibbles)], narrowed := true }
def FileSumsUptoSaid : Prop := fileSumsUptoRow.holds Tryd.pinned (OpenSpec.upto fileSumsSpec)

/-- 'perigeelaw26.FilePasses', WHERE WHAT IT READS IS OF BULK AT MOST 1048576: true; the input reads as it did. -/
def filePassesUptoRow : OpenClaim := { program := "ytgeicbjlichdgaadoor", sum := "7a59a87ba5d21a1c00702323d76016a9d08ed83719c3e47d2b998379e351c3d1", func := "perigee/perigeelaw26.FilePasses", spec := "filePasses", unfollowed := true, recurses := true, named := ["perigee/crc.nibbles"], apart := false, laid := [("perigee/crc.nibbles", laid_perigee_crc_nibbles)], narrowed := true }
def FilePassesUptoSaid : Prop := filePassesUptoRow.holds Tryd.pinned (OpenSpec.upto filePassesSpec)

/-- 'perigeelaw26.FilePuts', WHERE WHAT IT READS IS OF BULK AT MOST 1048576: true; the input reads as it did. -/
def filePutsUptoRow : OpenClaim := { program := "ytgeicbjlichdgaadoor", sum := "7a59a87ba5d21a1c00702323d76016a9d08ed83719c3e47d2b998379e351c3d1", func := "perigee/perigeelaw26.FilePuts", spec := "filePuts", unfollowed := true, recurses := true, named := ["perigee/crc.nibbles"], apart := false, laid := [("perigee/crc.nibbles", laid_perigee_crc_nibbles)], narrowed := true }
def FilePutsUptoSaid : Prop := filePutsUptoRow.holds Tryd.pinned (OpenSpec.upto filePutsSpec)

/-- 'perigeelaw26.FileRefuses', WHERE WHAT IT READS IS OF BULK AT MOST 1048576: true; the input reads as it did. -/
def fileRefusesUptoRow : OpenClaim := { program := "ytgeicbjlichdgaadoor", sum := "7a59a87ba5d21a1c00702323d76016a9d08ed83719c3e47d2b998379e351c3d1", func := "perigee/perigeelaw26.FileRefuses", spec := "fileRefuses", unfollowed := true, recurses := true, named := ["perigee/crc.nibbles"], apart := false, laid := [("perigee/crc.nibbles", laid_perigee_crc_nibbles)], narrowed := true }
def FileRefusesUptoSaid : Prop := fileRefusesUptoRow.holds Tryd.pinned (OpenSpec.upto fileRefusesSpec)

/-- 'perigeelaw26.FileLinks', WHERE WHAT IT READS IS OF BULK AT MOST 1048576: true; the input reads as it did. -/
def fileLinksUptoRow : OpenClaim := { program := "ytgeicbjlichdgaadoor", sum := "7a59a87ba5d21a1c00702323d76016a9d08ed83719c3e47d2b998379e351c3d1", func := "perigee/perigeelaw26.FileLinks", spec := "fileLinks", unfollowed := true, recurses := true, named := ["perigee/crc.nibbles"], apart := false, laid := [("perigee/crc.nibbles", laid_perigee_crc_nibbles)], narrowed := true }
def FileLinksUptoSaid : Prop := fileLinksUptoRow.holds Tryd.pinned (OpenSpec.upto fileLinksSpec)

end Rows
end Go.Proofs.YtgeicbjlichdgaaDoor
