/- The walk of the law CrcZeros. -/
import Derived.Test.YtegdlgnofbjjcaaDoorCrcK
namespace Go.Proofs.YtegdlgnofbjjcaaDoor
open Go.RowKit
attribute [local go_sem ↓] Go.wp_at_zero Go.wp_at_succ
theorem comb_nil (b n : Nat) : comb 0 b n = b := by unfold comb; rw [steps_zero, Nat.zero_xor]
theorem comb_two (a b m n : Nat) : comb (comb a 0 m) b n = comb a b (m + n) := by rw [comb_comb, comb_nil]
theorem comb_xor (a b n : Nat) : comb a b n ^^^ b = comb a 0 n := by unfold comb; rw [Nat.xor_zero, xx]
set_option maxRecDepth 100000 in set_option maxHeartbeats 1000000 in
theorem zeros_any (a b m n : Nat) (w : World) (hN : Nib w) (ha : a < 4294967296) (hb : b < 4294967296) (hm : m < 4294967296) (hn : n < 4294967296) :
    Calls Tryd.prog 11 #[.int .u32 a, .int .u32 b, .int .u32 m, .int .u32 n] w fun e w' => e = .returned (.bool true) ∧ Keeps (fun _ => False) w w' := by
  have HN := hid hN; have HA := hid ha; have HB := hid hb
  clear hN ha hb
  have HC := hid (comb_lt (m + n) HA.out HB.out)
  have HC2 := hid (comb_lt (b := 0) m HA.out (by omega))
  have X1 := u32_xor_nat (comb a b (m + n)) b HC.out HB.out
  rw [comb_xor] at X1
  go_enter Tryd.func11, Tryd.ntmps11
  go_wp2_with fail
  refine (Combine_any a b (m + n) _ HN.out HA.out HB.out (by omega)).mono ?_
  rintro e w1 ⟨rfl, hk1⟩
  have Q1 : Hd (Keeps (fun _ => False) w w1) := hid hk1
  clear hk1
  go_wp2_with fail
  refine (Combine_any a 0 m _ (HN.out.keep Q1.out (fun h => h)) HA.out (by omega) (by omega)).mono ?_
  rintro e w2 ⟨rfl, hk2⟩
  have Q2 : Hd (Keeps (fun _ => False) w w2) := hid (Q1.out.trans hk2)
  clear hk2
  go_wp2_with fail
  refine (Combine_any (comb a 0 m) b n _ (HN.out.keep Q2.out (fun h => h)) HC2.out HB.out (by omega)).mono ?_
  rintro e w3 ⟨rfl, hk3⟩
  rw [comb_two]
  have Q3 : Hd (Keeps (fun _ => False) w w3) := hid (Q2.out.trans hk3)
  clear hk3
  go_wp2_with fail
  refine (Combine_any a 0 (m + n) _ (HN.out.keep Q3.out (fun h => h)) HA.out (by omega) (by omega)).mono ?_
  rintro e w4 ⟨rfl, hk4⟩
  have Q4 : Hd (Keeps (fun _ => False) w w4) := hid (Q3.out.trans hk4)
  clear hk4
  go_wp2_with fail
  refine (Combine_any 0 b n _ (HN.out.keep Q4.out (fun h => h)) (by omega) HB.out (by omega)).mono ?_
  rintro e w5 ⟨rfl, hk5⟩
  rw [comb_nil]
  have Q5 : Hd (Keeps (fun _ => False) w w5) := hid (Q4.out.trans hk5)
  clear hk5
  go_wp2_with fail
  refine (lives_any _ (HN.out.keep Q5.out (fun h => h))).mono ?_
  rintro e w6 ⟨rfl, hk6⟩
  have Q6 : Hd (Keeps (fun _ => False) w w6) := hid (Q5.out.trans hk6)
  clear hk6
  go_wp2
  go_ret
  exact ⟨rfl, Q6.out⟩
end Go.Proofs.YtegdlgnofbjjcaaDoor
