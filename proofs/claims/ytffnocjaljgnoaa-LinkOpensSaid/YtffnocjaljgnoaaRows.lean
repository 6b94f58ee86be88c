/-
  No cell of these rows narrows 'for every input' (looked for: loops, veiled, ifaces, maps, wideKeys, modest, calm, conditions, laid).
  DERIVED. THE GIVEN ROWS OF THIS SEAT. 8 by the template 'for every input the law returns true; each argument reads behind the call as it read before'; 0 by the template 'total and deterministic' (their statements: YtffnocjaljgnoaaTotals.lean).
  GIVEN WITH THE SEED: the statements are not yours to turn. If you find one false, say at which input.
  Laid BY PROGRAM, IN A SANDBOX (cutbox-rows.mjs): the forced cells as the released guide's own fill.sh prints them over the translation b74c96afe6c98705… (all of the seat's roots in one cut). By AI agents, Wed Nov 11 2026. No macro, syntax, notation, axiom, sorry.
-/
import Derived.Test.YtffnocjaljgnoaaChecked
import GoSem.Claim
import GoSem.ClaimJoined
import GoSem.ClaimMapViews
import Derived.JoinedTies
import Derived.KernelRfl
namespace Go.Proofs.Ytffnocjaljgnoaa
/- THE CELL 'sum', in the pinned program and in every row, IS THE sha256 OF THE DUMP (.gsa) THAT YtffnocjaljgnoaaProg.lean LOADS. Nothing in Lean hashes anything: it is a label: what it is worth is what the hold of that sum in a sandbox is worth. -/
noncomputable def Try.pinned : Pinned := { name := "ytffnocjaljgnoaa", sum := "b74c96afe6c98705dbc16f7b1926a085e680e0136fd84a346d6b5b8242c0fa5a", checked := Try.checked }
namespace Rows
def none {H : Type} : Left H := { results := [], args := [] }

/-- 'perigeelaw33.LinkSends': WHATEVER THE INPUT: true; the input reads as it did. -/
def linkSendsSpec : ChangeSpec := { name := "linkSends", fn := fun _ => fun
  | [d1, d2, d3, d4] => { results := [.lit (.bool true)], args := [d1, d2, d3, d4] }
  | _ => none }
def linkSendsRow : OpenClaim := { program := "ytffnocjaljgnoaa", sum := "b74c96afe6c98705dbc16f7b1926a085e680e0136fd84a346d6b5b8242c0fa5a", func := "perigee/perigeelaw33.LinkSends", spec := "linkSends", unfollowed := true, recurses := true, apart := false }
def LinkSendsSaid : Prop := linkSendsRow.holds Try.pinned (OpenSpec.ofChange linkSendsSpec)

/-- ITS FALSE NEIGHBOUR: 'it returns false'. Refute it at one input. -/
def linkSendsWrong : ChangeSpec := { name := "linkSends", fn := fun _ => fun
  | [d1, d2, d3, d4] => { results := [.lit (.bool false)], args := [d1, d2, d3, d4] }
  | _ => none }
def LinkSendsWrongFalsely : Prop := linkSendsRow.holds Try.pinned (OpenSpec.ofChange linkSendsWrong)

/-- 'perigeelaw33.LinkSteps': WHATEVER THE INPUT: true; the input reads as it did. -/
def linkStepsSpec : ChangeSpec := { name := "linkSteps", fn := fun _ => fun
  | [d1, d2, d3, d4, d5] => { results := [.lit (.bool true)], args := [d1, d2, d3, d4, d5] }
  | _ => none }
def linkStepsRow : OpenClaim := { program := "ytffnocjaljgnoaa", sum := "b74c96afe6c98705dbc16f7b1926a085e680e0136fd84a346d6b5b8242c0fa5a", func := "perigee/perigeelaw33.LinkSteps", spec := "linkSteps", unfollowed := true, recurses := true, apart := false }
def LinkStepsSaid : Prop := linkStepsRow.holds Try.pinned (OpenSpec.ofChange linkStepsSpec)

/-- ITS FALSE NEIGHBOUR: 'it returns false'. Refute it at one input. -/
def linkStepsWrong : ChangeSpec := { name := "linkSteps", fn := fun _ => fun
  | [d1, d2, d3, d4, d5] => { results := [.lit (.bool false)], args := [d1, d2, d3, d4, d5] }
  | _ => none }
def LinkStepsWrongFalsely : Prop := linkStepsRow.holds Try.pinned (OpenSpec.ofChange linkStepsWrong)

/-- 'perigeelaw33.LinkSpoils': WHATEVER THE INPUT: true; the input reads as it did. -/
def linkSpoilsSpec : ChangeSpec := { name := "linkSpoils", fn := fun _ => fun
  | [d1, d2, d3, d4] => { results := [.lit (.bool true)], args := [d1, d2, d3, d4] }
  | _ => none }
def linkSpoilsRow : OpenClaim := { program := "ytffnocjaljgnoaa", sum := "b74c96afe6c98705dbc16f7b1926a085e680e0136fd84a346d6b5b8242c0fa5a", func := "perigee/perigeelaw33.LinkSpoils", spec := "linkSpoils", unfollowed := true, recurses := true, apart := false }
def LinkSpoilsSaid : Prop := linkSpoilsRow.holds Try.pinned (OpenSpec.ofChange linkSpoilsSpec)

/-- ITS FALSE NEIGHBOUR: 'it returns false'. Refute it at one input. -/
def linkSpoilsWrong : ChangeSpec := { name := "linkSpoils", fn := fun _ => fun
  | [d1, d2, d3, d4] => { results := [.lit (.bool false)], args := [d1, d2, d3, d4] }
  | _ => none }
def LinkSpoilsWrongFalsely : Prop := linkSpoilsRow.holds Try.pinned (OpenSpec.ofChange linkSpoilsWrong)

/-- 'perigeelaw33.LinkPlain': WHATEVER THE INPUT: true; the input reads as it did. -/
def linkPlainSpec : ChangeSpec := { name := "linkPlain", fn := fun _ => fun
  | [d1, d2] => { results := [.lit (.bool true)], args := [d1, d2] }
  | _ => none }
def linkPlainRow : OpenClaim := { program := "ytffnocjaljgnoaa", sum := "b74c96afe6c98705dbc16f7b1926a085e680e0136fd84a346d6b5b8242c0fa5a", func := "perigee/perigeelaw33.LinkPlain", spec := "linkPlain", unfollowed := true, recurses := true, apart := false }
def LinkPlainSaid : Prop := linkPlainRow.holds Try.pinned (OpenSpec.ofChange linkPlainSpec)

/-- ITS FALSE NEIGHBOUR: 'it returns false'. Refute it at one input. -/
def linkPlainWrong : ChangeSpec := { name := "linkPlain", fn := fun _ => fun
  | [d1, d2] => { results := [.lit (.bool false)], args := [d1, d2] }
  | _ => none }
def LinkPlainWrongFalsely : Prop := linkPlainRow.holds Try.pinned (OpenSpec.ofChange linkPlainWrong)

/-- 'perigeelaw33.LinkSplits': WHATEVER THE INPUT: true; the input reads as it did. -/
def linkSplitsSpec : ChangeSpec := { name := "linkSplits", fn := fun _ => fun
  | [d1, d2, d3, d4, d5, d6] => { results := [.lit (.bool true)], args := [d1, d2, d3, d4, d5, d6] }
  | _ => none }
def linkSplitsRow : OpenClaim := { program := "ytffnocjaljgnoaa", sum := "b74c96afe6c98705dbc16f7b1926a085e680e0136fd84a346d6b5b8242c0fa5a", func := "perigee/perigeelaw33.LinkSplits", spec := "linkSplits", unfollowed := true, recurses := true, apart := false }
def LinkSplitsSaid : Prop := linkSplitsRow.holds Try.pinned (OpenSpec.ofChange linkSplitsSpec)

/-- ITS FALSE NEIGHBOUR: 'it returns false'. Refute it at one input. -/
def linkSplitsWrong : ChangeSpec := { name := "linkSplits", fn := fun _ => fun
  | [d1, d2, d3, d4, d5, d6] => { results := [.lit (.bool false)], args := [d1, d2, d3, d4, d5, d6] }
  | _ => none }
def LinkSplitsWrongFalsely : Prop := linkSplitsRow.holds Try.pinned (OpenSpec.ofChange linkSplitsWrong)

/-- 'perigeelaw33.LinkCounts': WHATEVER THE INPUT: true; the input reads as it did. -/
def linkCountsSpec : ChangeSpec := { name := "linkCounts", fn := fun _ => fun
  | [d1, d2, d3, d4] => { results := [.lit (.bool true)], args := [d1, d2, d3, d4] }
  | _ => none }
def linkCountsRow : OpenClaim := { program := "ytffnocjaljgnoaa", sum := "b74c96afe6c98705dbc16f7b1926a085e680e0136fd84a346d6b5b8242c0fa5a", func := "perigee/perigeelaw33.LinkCounts", spec := "linkCounts", unfollowed := true, recurses := true, apart := false }
def LinkCountsSaid : Prop := linkCountsRow.holds Try.pinned (OpenSpec.ofChange linkCountsSpec)

/-- ITS FALSE NEIGHBOUR: 'it returns false'. Refute it at one input. -/
def linkCountsWrong : ChangeSpec := { name := "linkCounts", fn := fun _ => fun
  | [d1, d2, d3, d4] => { results := [.lit (.bool false)], args := [d1, d2, d3, d4] }
  | _ => none }
def LinkCountsWrongFalsely : Prop := linkCountsRow.holds Try.pinned (OpenSpec.ofChange linkCountsWrong)

/-- 'perigeelaw33.LinkOwns': WHATEVER THE INPUT: true; the input reads as it did. -/
def linkOwnsSpec : ChangeSpec := { name := "linkOwns", fn := fun _ => fun
  | [d1, d2, d3, d4] => { results := [.lit (.bool true)], args := [d1, d2, d3, d4] }
  | _ => none }
def linkOwnsRow : OpenClaim := { program := "ytffnocjaljgnoaa", sum := "b74c96afe6c98705dbc16f7b1926a085e680e0136fd84a346d6b5b8242c0fa5a", func := "perigee/perigeelaw33.LinkOwns", spec := "linkOwns", unfollowed := true, recurses := true, apart := false }
def LinkOwnsSaid : Prop := linkOwnsRow.holds Try.pinned (OpenSpec.ofChange linkOwnsSpec)

/-- ITS FALSE NEIGHBOUR: 'it returns false'. Refute it at one input. -/
def linkOwnsWrong : ChangeSpec := { name := "linkOwns", fn := fun _ => fun
  | [d1, d2, d3, d4] => { results := [.lit (.bool false)], args := [d1, d2, d3, d4] }
  | _ => none }
def LinkOwnsWrongFalsely : Prop := linkOwnsRow.holds Try.pinned (OpenSpec.ofChange linkOwnsWrong)

/-- 'perigeelaw33.LinkOpens': WHATEVER THE INPUT: true; the input reads as it did. -/
def linkOpensSpec : ChangeSpec := { name := "linkOpens", fn := fun _ => fun
  | [d1, d2, d3, d4] => { results := [.lit (.bool true)], args := [d1, d2, d3, d4] }
  | _ => none }
def linkOpensRow : OpenClaim := { program := "ytffnocjaljgnoaa", sum := "b74c96afe6c98705dbc16f7b1926a085e680e0136fd84a346d6b5b8242c0fa5a", func := "perigee/perigeelaw33.LinkOpens", spec := "linkOpens", unfollowed := true, recurses := true, apart := false }
def LinkOpensSaid : Prop := linkOpensRow.holds Try.pinned (OpenSpec.ofChange linkOpensSpec)

/-- ITS FALSE NEIGHBOUR: 'it returns false'. Refute it at one input. -/
def linkOpensWrong : ChangeSpec := { name := "linkOpens", fn := fun _ => fun
  | [d1, d2, d3, d4] => { results := [.lit (.bool false)], args := [d1, d2, d3, d4] }
  | _ => none }
def LinkOpensWrongFalsely : Prop := linkOpensRow.holds Try.pinned (OpenSpec.ofChange linkOpensWrong)

/- THE SECOND FORM. 'bulk': how many values and letters a reading holds, each counted each time it is reached (what is shared counts as often as it is met; a slice's spare places count too). A statement '..UptoSaid' is the law's where the arguments, and the package variables that the reading takes, are together of bulk at most 1048576: NARROWER than '..Said'. Prove '..Said' where nothing that the law and all that it calls make is longer than what came in: it says more and counts as full. Else prove '..UptoSaid'. A law counts once. -/
mutual
def uptoBulk {H : Type} : DataW H → Nat
  | .lit (.string bytes) => bytes.length + 1
  | .lit _ => 1
  | .nil => 1
  | .ptr d => uptoBulk d + 1
  | .slice elems spare => uptoBulkAll elems + uptoBulkAll spare + 1
  | .agg parts => uptoBulkAll parts + 1
  | .iface _ d => uptoBulk d + 1
  | .map entries => uptoBulkEntries entries + 1
  | .held _ => 1
def uptoBulkAll {H : Type} : List (DataW H) → Nat
  | [] => 0
  | d :: r => uptoBulk d + uptoBulkAll r
def uptoBulkEntries {H : Type} : List (Lit × DataW H) → Nat
  | [] => 0
  | x :: r => uptoBulkEntry x + uptoBulkEntries r
def uptoBulkEntry {H : Type} : Lit × DataW H → Nat
  | (.string bytes, d) => bytes.length + uptoBulk d + 1
  | (_, d) => uptoBulk d + 1
 end
def uptoSmall : (H : Type) → List (DataW H) → Bool := fun _ ds => decide (uptoBulkAll ds ≤ 1048576)
def OpenSpec.upto (s : _root_.Go.ChangeSpec) : _root_.Go.OpenSpec := { _root_.Go.OpenSpec.ofChange s with cond := some uptoSmall }

/-- 'perigeelaw33.LinkSends', WHERE WHAT IT READS IS OF BULK AT MOST 1048576: true; the input reads as it did. -/
def linkSendsUptoRow : OpenClaim := { program := "ytffnocjaljgnoaa", sum := "b74c96afe6c98705dbc16f7b1926a085e680e0136fd84a346d6b5b8242c0fa5a", func := "perigee/perigeelaw33.LinkSends", spec := "linkSends", unfollowed := true, recurses := true, apart := false, narrowed := true }
def LinkSendsUptoSaid : Prop := linkSendsUptoRow.holds Try.pinned (OpenSpec.upto linkSendsSpec)

/-- 'perigeelaw33.LinkSteps', WHERE WHAT IT READS IS OF BULK AT MOST 1048576: true; the input reads as it did. -/
def linkStepsUptoRow : OpenClaim := { program := "ytffnocjaljgnoaa", sum := "b74c96afe6c98705dbc16f7b1926a085e680e0136fd84a346d6b5b8242c0fa5a", func := "perigee/perigeelaw33.LinkSteps", spec := "linkSteps", unfollowed := true, recurses := true, apart := false, narrowed := true }
def LinkStepsUptoSaid : Prop := linkStepsUptoRow.holds Try.pinned (OpenSpec.upto linkStepsSpec)

/-- 'perigeelaw33.LinkSpoils', WHERE WHAT IT READS IS OF BULK AT MOST 1048576: true; the input reads as it did. -/
def linkSpoilsUptoRow : OpenClaim := { program := "ytffnocjaljgnoaa", sum := "b74c96afe6c98705dbc16f7b1926a085e680e0136fd84a346d6b5b8242c0fa5a", func := "perigee/perigeelaw33.LinkSpoils", spec := "linkSpoils", unfollowed := true, recurses := true, apart := false, narrowed := true }
def LinkSpoilsUptoSaid : Prop := linkSpoilsUptoRow.holds Try.pinned (OpenSpec.upto linkSpoilsSpec)

/-- 'perigeelaw33.LinkPlain', WHERE WHAT IT READS IS OF BULK AT MOST 1048576: true; the input reads as it did. -/
def linkPlainUptoRow : OpenClaim := { program := "ytffnocjaljgnoaa", sum := "b74c96afe6c98705dbc16f7b1926a085e680e0136fd84a346d6b5b8242c0fa5a", func := "perigee/perigeelaw33.LinkPlain", spec := "linkPlain", unfollowed := true, recurses := true, apart := false, narrowed := true }
def LinkPlainUptoSaid : Prop := linkPlainUptoRow.holds Try.pinned (OpenSpec.upto linkPlainSpec)

/-- 'perigeelaw33.LinkSplits', WHERE WHAT IT READS IS OF BULK AT MOST 1048576: true; the input reads as it did. -/
def linkSplitsUptoRow : OpenClaim := { program := "ytffnocjaljgnoaa", sum := "b74c96afe6c98705dbc16f7b1926a085e680e0136fd84a346d6b5b8242c0fa5a", func := "perigee/perigeelaw33.LinkSplits", spec := "linkSplits", unfollowed := true, recurses := true, apart := false, narrowed := true }
def LinkSplitsUptoSaid : Prop := linkSplitsUptoRow.holds Try.pinned (OpenSpec.upto linkSplitsSpec)

/-- 'perigeelaw33.LinkCounts', WHERE WHAT IT READS IS OF BULK AT MOST 1048576: true; the input reads as it did. -/
def linkCountsUptoRow : OpenClaim := { program := "ytffnocjaljgnoaa", sum := "b74c96afe6c98705dbc16f7b1926a085e680e0136fd84a346d6b5b8242c0fa5a", func := "perigee/perigeelaw33.LinkCounts", spec := "linkCounts", unfollowed := true, recurses := true, apart := false, narrowed := true }
def LinkCountsUptoSaid : Prop := linkCountsUptoRow.holds Try.pinned (OpenSpec.upto linkCountsSpec)

/-- 'perigeelaw33.LinkOwns', WHERE WHAT IT READS IS OF BULK AT MOST 1048576: true; the input reads as it did. -/
def linkOwnsUptoRow : OpenClaim := { program := "ytffnocjaljgnoaa", sum := "b74c96afe6c98705dbc16f7b1926a085e680e0136fd84a346d6b5b8242c0fa5a", func := "perigee/perigeelaw33.LinkOwns", spec := "linkOwns", unfollowed := true, recurses := true, apart := false, narrowed := true }
def LinkOwnsUptoSaid : Prop := linkOwnsUptoRow.holds Try.pinned (OpenSpec.upto linkOwnsSpec)

/-- 'perigeelaw33.LinkOpens', WHERE WHAT IT READS IS OF BULK AT MOST 1048576: true; the input reads as it did. -/
def linkOpensUptoRow : OpenClaim := { program := "ytffnocjaljgnoaa", sum := "b74c96afe6c98705dbc16f7b1926a085e680e0136fd84a346d6b5b8242c0fa5a", func := "perigee/perigeelaw33.LinkOpens", spec := "linkOpens", unfollowed := true, recurses := true, apart := false, narrowed := true }
def LinkOpensUptoSaid : Prop := linkOpensUptoRow.holds Try.pinned (OpenSpec.upto linkOpensSpec)

end Rows
end Go.Proofs.Ytffnocjaljgnoaa
