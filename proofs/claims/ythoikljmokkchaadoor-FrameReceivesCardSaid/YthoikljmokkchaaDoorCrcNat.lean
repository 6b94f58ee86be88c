/- Unsigned numbers, as naturals. -/
import Derived.Test.YthoikljmokkchaaDoorBase
import Derived.ProofKit
namespace Go.Proofs.YthoikljmokkchaaDoor.Cr
theorem nat_u64 {n : Int} (h : (Lit.int .u64 n).wf = true) : ∃ k : Nat, n = (k : Int) ∧ k < 18446744073709551616 := by
  have : 0 ≤ n ∧ n ≤ 18446744073709551615 := by simpa [Lit.wf, IntKind.min, IntKind.max, IntKind.signed, IntKind.bits] using h
  exact ⟨n.toNat, by omega, by omega⟩
end Go.Proofs.YthoikljmokkchaaDoor.Cr
