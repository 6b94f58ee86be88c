/-
  No cell of these rows narrows 'for every input' (looked for: loops, veiled, ifaces, maps, wideKeys, modest, calm, conditions, laid).
  DERIVED. THE GIVEN ROWS OF THIS SEAT. 10 by the template 'for every input the law returns true; each argument reads behind the call as it read before'; 0 by the template 'total and deterministic' (their statements: YtlebocjcelbbpaaTotals.lean).
  GIVEN WITH THE SEED: the statements are not yours to turn. If you find one false, say at which input.
  Laid BY PROGRAM, IN A SANDBOX (cutbox-rows.mjs): the forced cells as the released guide's own fill.sh prints them over the translation a16159985785fc9f… (all of the seat's roots in one cut). By AI agents, Wed Nov 11 2026. No macro, syntax, notation, axiom, sorry.
-/
import Derived.Test.YtlebocjcelbbpaaChecked
import GoSem.Claim
import GoSem.ClaimJoined
import GoSem.ClaimMapViews
import Derived.JoinedTies
import Derived.KernelRfl
namespace Go.Proofs.Ytlebocjcelbbpaa
/- THE CELL 'sum', in the pinned program and in every row, IS THE sha256 OF THE DUMP (.gsa) THAT YtlebocjcelbbpaaProg.lean LOADS. Nothing in Lean hashes anything: it is a label: what it is worth is what the hold of that sum in a sandbox is worth. -/
noncomputable def Try.pinned : Pinned := { name := "ytlebocjcelbbpaa", sum := "a16159985785fc9f8fc1598567f5b5dc76d62a09fdb9929ccddf0982ca482be7", checked := Try.checked }
namespace Rows
def none {H : Type} : Left H := { results := [], args := [] }

/-- 'perigeelaw02.WireUints': WHATEVER THE INPUT: true; the input reads as it did. -/
def wireUintsSpec : ChangeSpec := { name := "wireUints", fn := fun _ => fun
  | [d] => { results := [.lit (.bool true)], args := [d] }
  | _ => none }
def wireUintsRow : OpenClaim := { program := "ytlebocjcelbbpaa", sum := "a16159985785fc9f8fc1598567f5b5dc76d62a09fdb9929ccddf0982ca482be7", func := "perigee/perigeelaw02.WireUints", spec := "wireUints", apart := false }
def WireUintsSaid : Prop := wireUintsRow.holds Try.pinned (OpenSpec.ofChange wireUintsSpec)

/-- ITS FALSE NEIGHBOUR: 'it returns false'. Refute it at one input. -/
def wireUintsWrong : ChangeSpec := { name := "wireUints", fn := fun _ => fun
  | [d] => { results := [.lit (.bool false)], args := [d] }
  | _ => none }
def WireUintsWrongFalsely : Prop := wireUintsRow.holds Try.pinned (OpenSpec.ofChange wireUintsWrong)

/-- 'perigeelaw02.WireWrites': WHATEVER THE INPUT: true; the input reads as it did. -/
def wireWritesSpec : ChangeSpec := { name := "wireWrites", fn := fun _ => fun
  | [d] => { results := [.lit (.bool true)], args := [d] }
  | _ => none }
def wireWritesRow : OpenClaim := { program := "ytlebocjcelbbpaa", sum := "a16159985785fc9f8fc1598567f5b5dc76d62a09fdb9929ccddf0982ca482be7", func := "perigee/perigeelaw02.WireWrites", spec := "wireWrites", apart := false }
def WireWritesSaid : Prop := wireWritesRow.holds Try.pinned (OpenSpec.ofChange wireWritesSpec)

/-- ITS FALSE NEIGHBOUR: 'it returns false'. Refute it at one input. -/
def wireWritesWrong : ChangeSpec := { name := "wireWrites", fn := fun _ => fun
  | [d] => { results := [.lit (.bool false)], args := [d] }
  | _ => none }
def WireWritesWrongFalsely : Prop := wireWritesRow.holds Try.pinned (OpenSpec.ofChange wireWritesWrong)

/-- 'perigeelaw02.WirePrefix': WHATEVER THE INPUT: true; the input reads as it did. -/
def wirePrefixSpec : ChangeSpec := { name := "wirePrefix", fn := fun _ => fun
  | [d1, d2, d3, d4] => { results := [.lit (.bool true)], args := [d1, d2, d3, d4] }
  | _ => none }
def wirePrefixRow : OpenClaim := { program := "ytlebocjcelbbpaa", sum := "a16159985785fc9f8fc1598567f5b5dc76d62a09fdb9929ccddf0982ca482be7", func := "perigee/perigeelaw02.WirePrefix", spec := "wirePrefix", apart := false }
def WirePrefixSaid : Prop := wirePrefixRow.holds Try.pinned (OpenSpec.ofChange wirePrefixSpec)

/-- ITS FALSE NEIGHBOUR: 'it returns false'. Refute it at one input. -/
def wirePrefixWrong : ChangeSpec := { name := "wirePrefix", fn := fun _ => fun
  | [d1, d2, d3, d4] => { results := [.lit (.bool false)], args := [d1, d2, d3, d4] }
  | _ => none }
def WirePrefixWrongFalsely : Prop := wirePrefixRow.holds Try.pinned (OpenSpec.ofChange wirePrefixWrong)

/-- 'perigeelaw02.WireSlices': WHATEVER THE INPUT: true; the input reads as it did. -/
def wireSlicesSpec : ChangeSpec := { name := "wireSlices", fn := fun _ => fun
  | [d1, d2] => { results := [.lit (.bool true)], args := [d1, d2] }
  | _ => none }
def wireSlicesRow : OpenClaim := { program := "ytlebocjcelbbpaa", sum := "a16159985785fc9f8fc1598567f5b5dc76d62a09fdb9929ccddf0982ca482be7", func := "perigee/perigeelaw02.WireSlices", spec := "wireSlices", apart := false }
def WireSlicesSaid : Prop := wireSlicesRow.holds Try.pinned (OpenSpec.ofChange wireSlicesSpec)

/-- ITS FALSE NEIGHBOUR: 'it returns false'. Refute it at one input. -/
def wireSlicesWrong : ChangeSpec := { name := "wireSlices", fn := fun _ => fun
  | [d1, d2] => { results := [.lit (.bool false)], args := [d1, d2] }
  | _ => none }
def WireSlicesWrongFalsely : Prop := wireSlicesRow.holds Try.pinned (OpenSpec.ofChange wireSlicesWrong)

/-- 'perigeelaw02.WireReads': WHATEVER THE INPUT: true; the input reads as it did. -/
def wireReadsSpec : ChangeSpec := { name := "wireReads", fn := fun _ => fun
  | [d1, d2] => { results := [.lit (.bool true)], args := [d1, d2] }
  | _ => none }
def wireReadsRow : OpenClaim := { program := "ytlebocjcelbbpaa", sum := "a16159985785fc9f8fc1598567f5b5dc76d62a09fdb9929ccddf0982ca482be7", func := "perigee/perigeelaw02.WireReads", spec := "wireReads", apart := false }
def WireReadsSaid : Prop := wireReadsRow.holds Try.pinned (OpenSpec.ofChange wireReadsSpec)

/-- ITS FALSE NEIGHBOUR: 'it returns false'. Refute it at one input. -/
def wireReadsWrong : ChangeSpec := { name := "wireReads", fn := fun _ => fun
  | [d1, d2] => { results := [.lit (.bool false)], args := [d1, d2] }
  | _ => none }
def WireReadsWrongFalsely : Prop := wireReadsRow.holds Try.pinned (OpenSpec.ofChange wireReadsWrong)

/-- 'perigeelaw02.WireSticks': WHATEVER THE INPUT: true; the input reads as it did. -/
def wireSticksSpec : ChangeSpec := { name := "wireSticks", fn := fun _ => fun
  | [d1, d2, d3] => { results := [.lit (.bool true)], args := [d1, d2, d3] }
  | _ => none }
def wireSticksRow : OpenClaim := { program := "ytlebocjcelbbpaa", sum := "a16159985785fc9f8fc1598567f5b5dc76d62a09fdb9929ccddf0982ca482be7", func := "perigee/perigeelaw02.WireSticks", spec := "wireSticks", apart := false }
def WireSticksSaid : Prop := wireSticksRow.holds Try.pinned (OpenSpec.ofChange wireSticksSpec)

/-- ITS FALSE NEIGHBOUR: 'it returns false'. Refute it at one input. -/
def wireSticksWrong : ChangeSpec := { name := "wireSticks", fn := fun _ => fun
  | [d1, d2, d3] => { results := [.lit (.bool false)], args := [d1, d2, d3] }
  | _ => none }
def WireSticksWrongFalsely : Prop := wireSticksRow.holds Try.pinned (OpenSpec.ofChange wireSticksWrong)

/-- 'perigeelaw02.WireRound': WHATEVER THE INPUT: true; the input reads as it did. -/
def wireRoundSpec : ChangeSpec := { name := "wireRound", fn := fun _ => fun
  | [d] => { results := [.lit (.bool true)], args := [d] }
  | _ => none }
def wireRoundRow : OpenClaim := { program := "ytlebocjcelbbpaa", sum := "a16159985785fc9f8fc1598567f5b5dc76d62a09fdb9929ccddf0982ca482be7", func := "perigee/perigeelaw02.WireRound", spec := "wireRound", apart := false }
def WireRoundSaid : Prop := wireRoundRow.holds Try.pinned (OpenSpec.ofChange wireRoundSpec)

/-- ITS FALSE NEIGHBOUR: 'it returns false'. Refute it at one input. -/
def wireRoundWrong : ChangeSpec := { name := "wireRound", fn := fun _ => fun
  | [d] => { results := [.lit (.bool false)], args := [d] }
  | _ => none }
def WireRoundWrongFalsely : Prop := wireRoundRow.holds Try.pinned (OpenSpec.ofChange wireRoundWrong)

/-- 'perigeelaw02.WireCut': WHATEVER THE INPUT: true; the input reads as it did. -/
def wireCutSpec : ChangeSpec := { name := "wireCut", fn := fun _ => fun
  | [d1, d2] => { results := [.lit (.bool true)], args := [d1, d2] }
  | _ => none }
def wireCutRow : OpenClaim := { program := "ytlebocjcelbbpaa", sum := "a16159985785fc9f8fc1598567f5b5dc76d62a09fdb9929ccddf0982ca482be7", func := "perigee/perigeelaw02.WireCut", spec := "wireCut", apart := false }
def WireCutSaid : Prop := wireCutRow.holds Try.pinned (OpenSpec.ofChange wireCutSpec)

/-- ITS FALSE NEIGHBOUR: 'it returns false'. Refute it at one input. -/
def wireCutWrong : ChangeSpec := { name := "wireCut", fn := fun _ => fun
  | [d1, d2] => { results := [.lit (.bool false)], args := [d1, d2] }
  | _ => none }
def WireCutWrongFalsely : Prop := wireCutRow.holds Try.pinned (OpenSpec.ofChange wireCutWrong)

/-- 'perigeelaw02.WireCanonical': WHATEVER THE INPUT: true; the input reads as it did. -/
def wireCanonicalSpec : ChangeSpec := { name := "wireCanonical", fn := fun _ => fun
  | [d1, d2] => { results := [.lit (.bool true)], args := [d1, d2] }
  | _ => none }
def wireCanonicalRow : OpenClaim := { program := "ytlebocjcelbbpaa", sum := "a16159985785fc9f8fc1598567f5b5dc76d62a09fdb9929ccddf0982ca482be7", func := "perigee/perigeelaw02.WireCanonical", spec := "wireCanonical", apart := false }
def WireCanonicalSaid : Prop := wireCanonicalRow.holds Try.pinned (OpenSpec.ofChange wireCanonicalSpec)

/-- ITS FALSE NEIGHBOUR: 'it returns false'. Refute it at one input. -/
def wireCanonicalWrong : ChangeSpec := { name := "wireCanonical", fn := fun _ => fun
  | [d1, d2] => { results := [.lit (.bool false)], args := [d1, d2] }
  | _ => none }
def WireCanonicalWrongFalsely : Prop := wireCanonicalRow.holds Try.pinned (OpenSpec.ofChange wireCanonicalWrong)

/-- 'perigeelaw02.WireOwns': WHATEVER THE INPUT: true; the input reads as it did. -/
def wireOwnsSpec : ChangeSpec := { name := "wireOwns", fn := fun _ => fun
  | [d1, d2] => { results := [.lit (.bool true)], args := [d1, d2] }
  | _ => none }
def wireOwnsRow : OpenClaim := { program := "ytlebocjcelbbpaa", sum := "a16159985785fc9f8fc1598567f5b5dc76d62a09fdb9929ccddf0982ca482be7", func := "perigee/perigeelaw02.WireOwns", spec := "wireOwns", apart := false }
def WireOwnsSaid : Prop := wireOwnsRow.holds Try.pinned (OpenSpec.ofChange wireOwnsSpec)

/-- ITS FALSE NEIGHBOUR: 'it returns false'. Refute it at one input. -/
def wireOwnsWrong : ChangeSpec := { name := "wireOwns", fn := fun _ => fun
  | [d1, d2] => { results := [.lit (.bool false)], args := [d1, d2] }
  | _ => none }
def WireOwnsWrongFalsely : Prop := wireOwnsRow.holds Try.pinned (OpenSpec.ofChange wireOwnsWrong)

/- THE SECOND FORM. 'bulk': how many values and letters a reading holds, each counted each time it is reached (what is shared counts as often as it is met; a slice's spare places count too). A statement '..UptoSaid' is the law's where the arguments, and the package variables that the reading takes, are together of bulk at most 1048576: NARROWER than '..Said'. Prove '..Said' where nothing that the law and all that it calls make is longer than what came in: it says more and counts as full. Else prove '..UptoSaid'. A law counts once. -/
mutual
def uptoBulk {H : Type} : DataW H → Nat
  | .lit (.string bytes) => bytes.length + 1
  | .lit _ => 1
  | .nil => 1
  | .ptr d => uptoBulk d + 1
  | .slice elems spare => uptoBulkAll elems + uptoBulkAll spare + 1
  | .agg parts => uptoBulkAll parts + 1
  | .iface _ d => uptoBulk d + 1
  | .map entries => uptoBulkEntries entries + 1
  | .held _ => 1
def uptoBulkAll {H : Type} : List (DataW H) → Nat
  | [] => 0
  | d :: r => uptoBulk d + uptoBulkAll r
def uptoBulkEntries {H : Type} : List (Lit × DataW H) → Nat
  | [] => 0
  | x :: r => uptoBulkEntry x + uptoBulkEntries r
def uptoBulkEntry {H : Type} : Lit × DataW H → Nat
  | (.string bytes, d) => bytes.length + uptoBulk d + 1
  | (_, d) => uptoBulk d + 1
 end
def uptoSmall : (H : Type) → List (DataW H) → Bool := fun _ ds => decide (uptoBulkAll ds ≤ 1048576)
def OpenSpec.upto (s : _root_.Go.ChangeSpec) : _root_.Go.OpenSpec := { _root_.Go.OpenSpec.ofChange s with cond := some uptoSmall }

/-- 'perigeelaw02.WireUints', WHERE WHAT IT READS IS OF BULK AT MOST 1048576: true; the input reads as it did. -/
def wireUintsUptoRow : OpenClaim := { program := "ytlebocjcelbbpaa", sum := "a16159985785fc9f8fc1598567f5b5dc76d62a09fdb9929ccddf0982ca482be7", func := "perigee/perigeelaw02.WireUints", spec := "wireUints", apart := false, narrowed := true }
def WireUintsUptoSaid : Prop := wireUintsUptoRow.holds Try.pinned (OpenSpec.upto wireUintsSpec)

/-- 'perigeelaw02.WireWrites', WHERE WHAT IT READS IS OF BULK AT MOST 1048576: true; the input reads as it did. -/
def wireWritesUptoRow : OpenClaim := { program := "ytlebocjcelbbpaa", sum := "a16159985785fc9f8fc1598567f5b5dc76d62a09fdb9929ccddf0982ca482be7", func := "perigee/perigeelaw02.WireWrites", spec := "wireWrites", apart := false, narrowed := true }
def WireWritesUptoSaid : Prop := wireWritesUptoRow.holds Try.pinned (OpenSpec.upto wireWritesSpec)

/-- 'perigeelaw02.WirePrefix', WHERE WHAT IT READS IS OF BULK AT MOST 1048576: true; the input reads as it did. -/
def wirePrefixUptoRow : OpenClaim := { program := "ytlebocjcelbbpaa", sum := "a16159985785fc9f8fc1598567f5b5dc76d62a09fdb9929ccddf0982ca482be7", func := "perigee/perigeelaw02.WirePrefix", spec := "wirePrefix", apart := false, narrowed := true }
def WirePrefixUptoSaid : Prop := wirePrefixUptoRow.holds Try.pinned (OpenSpec.upto wirePrefixSpec)

/-- 'perigeelaw02.WireSlices', WHERE WHAT IT READS IS OF BULK AT MOST 1048576: true; the input reads as it did. -/
def wireSlicesUptoRow : OpenClaim := { program := "ytlebocjcelbbpaa", sum := "a16159985785fc9f8fc1598567f5b5dc76d62a09fdb9929ccddf0982ca482be7", func := "perigee/perigeelaw02.WireSlices", spec := "wireSlices", apart := false, narrowed := true }
def WireSlicesUptoSaid : Prop := wireSlicesUptoRow.holds Try.pinned (OpenSpec.upto wireSlicesSpec)

/-- 'perigeelaw02.WireReads', WHERE WHAT IT READS IS OF BULK AT MOST 1048576: true; the input reads as it did. -/
def wireReadsUptoRow : OpenClaim := { program := "ytlebocjcelbbpaa", sum := "a16159985785fc9f8fc1598567f5b5dc76d62a09fdb9929ccddf0982ca482be7", func := "perigee/perigeelaw02.WireReads", spec := "wireReads", apart := false, narrowed := true }
def WireReadsUptoSaid : Prop := wireReadsUptoRow.holds Try.pinned (OpenSpec.upto wireReadsSpec)

/-- 'perigeelaw02.WireSticks', WHERE WHAT IT READS IS OF BULK AT MOST 1048576: true; the input reads as it did. -/
def wireSticksUptoRow : OpenClaim := { program := "ytlebocjcelbbpaa", sum := "a16159985785fc9f8fc1598567f5b5dc76d62a09fdb9929ccddf0982ca482be7", func := "perigee/perigeelaw02.WireSticks", spec := "wireSticks", apart := false, narrowed := true }
def WireSticksUptoSaid : Prop := wireSticksUptoRow.holds Try.pinned (OpenSpec.upto wireSticksSpec)

/-- 'perigeelaw02.WireRound', WHERE WHAT IT READS IS OF BULK AT MOST 1048576: true; the input reads as it did. -/
def wireRoundUptoRow : OpenClaim := { program := "ytlebocjcelbbpaa", sum := "a16159985785fc9f8fc1598567f5b5dc76d62a09fdb9929ccddf0982ca482be7", func := "perigee/perigeelaw02.WireRound", spec := "wireRound", apart := false, narrowed := true }
def WireRoundUptoSaid : Prop := wireRoundUptoRow.holds Try.pinned (OpenSpec.upto wireRoundSpec)

/-- 'perigeelaw02.WireCut', WHERE WHAT IT READS IS OF BULK AT MOST 1048576: true; the input reads as it did. -/
def wireCutUptoRow : OpenClaim := { program := "ytlebocjcelbbpaa", sum := "a16159985785fc9f8fc1598567f5b5dc76d62a09fdb9929ccddf0982ca482be7", func := "perigee/perigeelaw02.WireCut", spec := "wireCut", apart := false, narrowed := true }
def WireCutUptoSaid : Prop := wireCutUptoRow.holds Try.pinned (OpenSpec.upto wireCutSpec)

/-- 'perigeelaw02.WireCanonical', WHERE WHAT IT READS IS OF BULK AT MOST 1048576: true; the input reads as it did. -/
def wireCanonicalUptoRow : OpenClaim := { program := "ytlebocjcelbbpaa", sum := "a16159985785fc9f8fc1598567f5b5dc76d62a09fdb9929ccddf0982ca482be7", func := "perigee/perigeelaw02.WireCanonical", spec := "wireCanonical", apart := false, narrowed := true }
def WireCanonicalUptoSaid : Prop := wireCanonicalUptoRow.holds Try.pinned (OpenSpec.upto wireCanonicalSpec)

/-- 'perigeelaw02.WireOwns', WHERE WHAT IT READS IS OF BULK AT MOST 1048576: true; the input reads as it did. -/
def wireOwnsUptoRow : OpenClaim := { program := "ytlebocjcelbbpaa", sum := "a16159985785fc9f8fc1598567f5b5dc76d62a09fdb9929ccddf0982ca482be7", func := "perigee/perigeelaw02.WireOwns", spec := "wireOwns", apart := false, narrowed := true }
def WireOwnsUptoSaid : Prop := wireOwnsUptoRow.holds Try.pinned (OpenSpec.upto wireOwnsSpec)

end Rows
end Go.Proofs.Ytlebocjcelbbpaa
