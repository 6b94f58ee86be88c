/- The walk of the law CrcZeros. -/
import Derived.Test.YtgeicbjlichdgaaDoorCrcK
namespace Go.Proofs.YtgeicbjlichdgaaDoor.Cr
open Go.RowKit
attribute [local go_sem ↓] Go.wp_at_zero Go.wp_at_succ
theorem comb_nil (b n : Nat) : comb 0 b n = b := by unfold comb; rw [steps_zero, Nat.zero_xor]
theorem comb_two (a b m n : Nat) : comb (comb a 0 m) b n = comb a b (m + n) := by rw [comb_comb, comb_nil]
theorem comb_xor (a b n : Nat) : comb a b n ^^^ b = comb a 0 n := by unfold comb; rw [Nat.xor_zero, xx]
end Go.Proofs.YtgeicbjlichdgaaDoor.Cr
