/- The walks of the reference's Combine and of the matrices. -/
import Derived.Test.YtgeicbjlichdgaaDoorCrcE
namespace Go.Proofs.YtgeicbjlichdgaaDoor.Cr
open Go.RowKit
attribute [local go_sem ↓] Go.wp_at_zero Go.wp_at_succ

theorem comb_lt {a b : Nat} (n : Nat) (ha : a < 4294967296) (hb : b < 4294967296) : comb a b n < 4294967296 := xor_lt (n := 32) (steps_lt _ ha) hb
theorem feed_zero (r : Nat) : feed r 0 = steps 8 r := by unfold feed; rw [Nat.xor_zero]
end Go.Proofs.YtgeicbjlichdgaaDoor.Cr
