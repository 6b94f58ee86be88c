/- The walk of the law CrcCombine. -/
import Derived.Test.YtegdlgnofbjjcaaDoorCrcQ
namespace Go.Proofs.YtegdlgnofbjjcaaDoor
open Go.RowKit
attribute [local go_sem ↓] Go.wp_at_zero Go.wp_at_succ
set_option maxRecDepth 100000 in set_option maxHeartbeats 1000000 in
theorem combine_any (a b : Nat) (z : Int) (w : World) (hN : Nib w) (ha : a < 4294967296) (hb : b < 4294967296) :
    Calls Tryd.prog 4 #[.int .u32 a, .int .u32 b, .int .i64 z] w fun e w' => e = .returned (.bool true) ∧ Keeps (fun _ => False) w w' := by
  have HN := hid hN; have HA := hid ha; have HB := hid hb
  clear hN ha hb
  rcases Int.lt_or_le 2000 z with hlong | hshort
  · go_enter Tryd.func4, Tryd.ntmps4
    go_wp2_with fail
    refine (lives_any _ HN.out).mono ?_
    rintro e w6 ⟨rfl, hk6⟩
    have Q6 := hid hk6
    clear hk6
    go_wp2
    go_ret
    exact ⟨rfl, Q6.out⟩
  · have HC : Hd (∃ c : Nat, (Calls Tryd.prog 18 #[.int .u32 a, .int .u32 b, .int .i64 z] w fun e w' => e = .returned (.int .u32 (c : Nat)) ∧ Keeps (fun _ => False) w w') ∧ ∀ W, Calls Tryd.prog 19 #[.int .u32 a, .int .u32 b, .int .i64 z] W fun e w' => e = .returned (.int .u32 (c : Nat)) ∧ W = w') := hid (by
      rcases Int.lt_or_le z 0 with h | h
      · exact ⟨_, Combine_neg a b z w HN.out HA.out HB.out h, fun W => RCombine_neg a b z W HA.out HB.out h⟩
      · obtain ⟨n, rfl⟩ := Int.eq_ofNat_of_zero_le h
        exact ⟨_, Combine_any a b n w HN.out HA.out HB.out (by omega), fun W => RCombine_any a b n W HA.out HB.out (by omega)⟩)
    obtain ⟨c, c1, c2⟩ := HC.out
    have C1 := hid c1; have C2 := hid c2
    clear HC c1 c2
    go_enter Tryd.func4, Tryd.ntmps4
    go_wp2_with fail
    refine C1.out.mono ?_
    rintro e w1 ⟨rfl, hk1⟩
    have Q1 := hid hk1
    clear hk1
    go_wp2_with fail
    refine (C2.out _).mono ?_
    rintro e w2 ⟨rfl, rfl⟩
    go_wp2_with fail
    refine (lives_any _ (HN.out.keep Q1.out (fun h => h))).mono ?_
    rintro e w6 ⟨rfl, hk6⟩
    have Q6 := hid (Q1.out.trans hk6)
    clear hk6
    go_wp2
    go_ret
    exact ⟨rfl, Q6.out⟩
end Go.Proofs.YtegdlgnofbjjcaaDoor
