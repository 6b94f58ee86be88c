/- The walks of the reference's Combine and of the matrices. -/
import Derived.Test.YtegdlgnofbjjcaaDoorCrcE
namespace Go.Proofs.YtegdlgnofbjjcaaDoor
open Go.RowKit
attribute [local go_sem ↓] Go.wp_at_zero Go.wp_at_succ

theorem comb_lt {a b : Nat} (n : Nat) (ha : a < 4294967296) (hb : b < 4294967296) : comb a b n < 4294967296 := xor_lt (n := 32) (steps_lt _ ha) hb
theorem feed_zero (r : Nat) : feed r 0 = steps 8 r := by unfold feed; rw [Nat.xor_zero]
set_option maxRecDepth 100000 in set_option maxHeartbeats 400000 in
theorem RCombine_any (a b : Nat) (n : Nat) (w : World) (ha : a < 4294967296) (hb : b < 4294967296) (hn : n ≤ 1000000000) :
    Calls Tryd.prog 19 #[.int .u32 a, .int .u32 b, .int .i64 n] w fun e w' => e = .returned (.int .u32 (comb a b n : Nat)) ∧ w = w' := by
  have HA := hid ha; have HB := hid hb
  clear ha hb
  go_enter Tryd.func19, Tryd.ntmps19
  go_wp2_with fail
  go_loop [0, 7] (fun r i => ∃ k : Nat, k ≤ n ∧ i = .int .i64 k ∧ r = .int .u32 (steps (8 * k) a : Nat)) (fun _ i => n - (intOf i).toNat)
  case atStart => exact ⟨0, by omega, rfl, rfl⟩
  case round =>
    obtain ⟨k, hk, rfl, rfl⟩ := hrel
    have HY : Hd (steps (8 * k) a < 4294967296) := hid (steps_lt _ HA.out)
    by_cases hlt : k < n
    · have HS : Hd (steps (8 * (k + 1)) a = feed (steps (8 * k) a) 0) := hid (by rw [feed_zero, ← steps_add]; rfl)
      generalize steps (8 * k) a = y at *
      go_wp2_with fail
      refine (RFeed_any y 0 _ HY.out (by omega)).mono ?_
      rintro e w1 ⟨rfl, rfl⟩
      go_wp2
      go_round
      case rel => exact ⟨k + 1, by omega, by go_num, by rw [HS.out]⟩
      case measure => simp [intOf]; omega
    · have hkn : k = n := by omega
      have HE : Hd (comb a b n = steps (8 * k) a ^^^ b) := hid (by rw [hkn]; rfl)
      have X1 := u32_xor_nat (steps (8 * k) a) b HY.out HB.out
      clear hkn
      generalize steps (8 * k) a = y at *
      go_wp2
      go_ret
      exact ⟨ret_int (by rw [HE.out]), rfl⟩
end Go.Proofs.YtegdlgnofbjjcaaDoor
