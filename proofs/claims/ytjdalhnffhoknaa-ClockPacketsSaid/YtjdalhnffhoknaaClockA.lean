/- The walks of the clock's functions on numbers. -/
import Derived.Test.YtjdalhnffhoknaaChecked
import Derived.Test.YtjdalhnffhoknaaBase
import Derived.Test.YtjdalhnffhoknaaClockMath
import Derived.StillTailTactics
namespace Go.Proofs.Ytjdalhnffhoknaa
open Go.RowKit

set_option maxRecDepth 100000 in set_option maxHeartbeats 400000 in
theorem limited_any (n : Int) (w : World) : Calls Try.prog 46 #[.int .i64 n] w fun e w' => e = .returned (.int .i64 (lim n)) ∧ w = w' := by
  go_enter Try.func46, Try.ntmps46
  go_wp2
  all_goals (go_ret; exact ⟨ret_int (by unfold lim; omega), rfl⟩)
set_option maxRecDepth 100000 in set_option maxHeartbeats 400000 in
theorem Limit_any (n : Int) (w : World) : Calls Try.prog 48 #[.int .i64 n] w fun e w' => e = .returned (.int .i64 (lim n)) ∧ w = w' := by
  go_enter Try.func48, Try.ntmps48
  go_wp2
  all_goals (go_ret; exact ⟨ret_int (by unfold lim; omega), rfl⟩)
set_option maxRecDepth 100000 in set_option maxHeartbeats 400000 in
theorem errs_any (c d : Int) (w : World) (h0 : 0 ≤ c) (h1 : c ≤ 1000000000000) (h2 : 1 ≤ d) (h3 : d ≤ 1000000000) : Calls Try.prog 45 #[.int .i64 c, .int .i64 d] w fun e w' => e = .returned (.int .i64 (ceil c d)) ∧ w = w' := by
  have HE := hid (ceil_eq h0 h2)
  go_enter Try.func45, Try.ntmps45
  go_wp2
  go_ret
  exact ⟨ret_int HE.out, rfl⟩
set_option maxRecDepth 100000 in set_option maxHeartbeats 400000 in
theorem Ceil_any (c d : Int) (w : World) (h0 : 0 ≤ c) (h1 : c ≤ 1000000000000) (h2 : 1 ≤ d) (h3 : d ≤ 1000000000) : Calls Try.prog 37 #[.int .i64 c, .int .i64 d] w fun e w' => e = .returned (.int .i64 (ceil c d)) ∧ Drawn w w' := by
  have hne : (d == 0) = false := by simp; omega
  have e1 := Int.ediv_nonneg h0 (show 0 ≤ d by omega)
  have e2 := div_le_self' h0 h2
  have e3 := Int.emod_nonneg c (show d ≠ 0 by omega)
  have e4 := Int.emod_lt_of_pos c (show 0 < d by omega)
  go_enter Try.func37, Try.ntmps37
  go_wp2
  go_quiet (fail)
  go_wp2
  all_goals (go_ret; exact ⟨ret_int (by unfold ceil; omega), _, rfl⟩)
set_option maxRecDepth 100000 in set_option maxHeartbeats 400000 in
theorem Around_any (n m : Int) (w : World) (h0 : -9223372036854775808 ≤ n) (h1 : n ≤ 9223372036854775807) (h2 : 1 ≤ m) (h3 : m ≤ 1000000000000000) : Calls Try.prog 23 #[.int .i64 n, .int .i64 m] w fun e w' => e = .returned (.int .i64 (around n m)) ∧ w = w' := by
  have H0 := hid h0; have H1 := hid h1
  by_cases hn : n < 0
  · have HE : Hd (-((n + 1).tmod m) = around n m) := hid (by unfold around; rw [if_pos hn, ← Int.neg_tmod, Int.tmod_eq_emod_of_nonneg (by omega)])
    go_enter Try.func23, Try.ntmps23
    go_wp2
    go_ret
    exact ⟨ret_int HE.out, rfl⟩
  · have HE : Hd (n % m = around n m) := hid (by unfold around; rw [if_neg hn])
    go_enter Try.func23, Try.ntmps23
    go_wp2
    go_ret
    exact ⟨ret_int HE.out, rfl⟩
theorem around_b (n m : Int) (h2 : 1 ≤ m) : 0 ≤ around n m ∧ around n m < m := ⟨around_lo h2, around_lt h2⟩
set_option maxRecDepth 100000 in set_option maxHeartbeats 400000 in
theorem counted_any (n : Int) (w : World) (h0 : -9223372036854775808 ≤ n) (h1 : n ≤ 9223372036854775807) : Calls Try.prog 16 #[.int .i64 n] w fun e w' => e = .returned (.int .i64 (around n 274877906944)) ∧ w = w' := by
  have H0 := hid h0; have H1 := hid h1; clear h0 h1
  go_enter Try.func16, Try.ntmps16
  go_wp2_with fail
  refine (Around_any n _ _ H0.out H1.out (by omega) (by omega)).mono ?_
  rintro e w1 ⟨rfl, rfl⟩
  go_wp2
  go_ret
  exact ⟨rfl, rfl⟩
set_option maxRecDepth 100000 in set_option maxHeartbeats 400000 in
theorem drift_any (n : Int) (w : World) (h0 : -9223372036854775808 ≤ n) (h1 : n ≤ 9223372036854775807) : Calls Try.prog 17 #[.int .i64 n] w fun e w' => e = .returned (.int .i64 (1 + around n 1000000)) ∧ w = w' := by
  have H0 := hid h0; have H1 := hid h1; clear h0 h1
  obtain ⟨b0, b1⟩ := around_b n 1000000 (by omega)
  go_enter Try.func17, Try.ntmps17
  go_wp2_with fail
  refine (Around_any n _ _ H0.out H1.out (by omega) (by omega)).mono ?_
  rintro e w1 ⟨rfl, rfl⟩
  go_wp2
  go_ret
  exact ⟨rfl, rfl⟩
set_option maxRecDepth 100000 in set_option maxHeartbeats 400000 in
theorem Error_any (c d : Int) (w : World) (h0 : 0 ≤ c) (h1 : c ≤ 1000000000000) (h2 : 1 ≤ d) (h3 : d ≤ 1000000000) : Calls Try.prog 47 #[.int .i64 c, .int .i64 d] w fun e w' => e = .returned (.int .i64 (ceil c d)) ∧ Drawn w w' := by
  go_enter Try.func47, Try.ntmps47
  go_wp2_with fail
  refine (Ceil_any c d _ h0 h1 h2 h3).mono ?_
  rintro e w1 ⟨rfl, hd⟩
  have HD := hid hd; clear hd
  go_wp2
  go_ret
  exact ⟨rfl, HD.out⟩
set_option maxRecDepth 100000 in set_option maxHeartbeats 400000 in
theorem Bound_any (n m : Int) (w : World) (h0 : -9223372036854775808 ≤ n) (h1 : n ≤ 9223372036854775807) (h2 : 1 ≤ m) (h3 : m ≤ 1000000000000) : Calls Try.prog 49 #[.int .i64 n, .int .i64 m] w fun e w' => e = .returned (.int .i64 (around n (2 * m + 1) - m)) ∧ w = w' := by
  have H0 := hid h0; have H1 := hid h1; clear h0 h1
  obtain ⟨b0, b1⟩ := around_b n (2 * m + 1) (by omega)
  go_enter Try.func49, Try.ntmps49
  go_wp2_with fail
  refine (Around_any n _ _ H0.out H1.out (by omega) (by omega)).mono ?_
  rintro e w1 ⟨rfl, rfl⟩
  go_wp2
  go_ret
  exact ⟨rfl, rfl⟩
set_option maxRecDepth 100000 in set_option maxHeartbeats 400000 in
theorem Unwrap_any (last low : Int) (w : World) (h0 : 0 ≤ last) (h1 : last ≤ 1000000000000) : Calls Try.prog 24 #[.int .i64 last, .int .i64 low] w fun e w' => e = .returned (.int .i64 (unwr last low)) ∧ w = w' := by
  have h2 : -65536 < low.tmod 65536 ∧ low.tmod 65536 < 65536 := by
    have h4 : (low.tmod 65536).natAbs < 65536 := by
      rw [Int.natAbs_tmod]
      exact Nat.mod_lt _ (by decide)
    omega
  obtain ⟨h2, h3⟩ := h2
  have HE : Hd (unwr last low = last + (low.tmod 65536 - last % 65536 + 131072) % 65536) := hid (by unfold unwr; rw [Int.tmod_eq_emod_of_nonneg h0])
  go_enter Try.func24, Try.ntmps24
  go_wp2
  go_ret
  exact ⟨ret_int HE.out.symm, rfl⟩
set_option maxRecDepth 100000 in set_option maxHeartbeats 400000 in
theorem RUnwrap_any (last low : Int) (w : World) (h0 : 0 ≤ last) (h1 : last ≤ 1000000000000) : Calls Try.prog 25 #[.int .i64 last, .int .i64 low] w fun e w' => e = .returned (.int .i64 (unwr last low)) ∧ w = w' := by
  have h2 : -65536 < low.tmod 65536 ∧ low.tmod 65536 < 65536 := by
    have h4 : (low.tmod 65536).natAbs < 65536 := by
      rw [Int.natAbs_tmod]
      exact Nat.mod_lt _ (by decide)
    omega
  obtain ⟨h2, h3⟩ := h2
  have HE := hid (unwr_ref last low h0)
  rw [Int.tmod_eq_emod_of_nonneg h0] at HE
  have h6 : last % 65536 ≤ last := by omega
  go_enter Try.func25, Try.ntmps25
  go_wp2
  all_goals (go_ret; exact ⟨ret_int (by rw [HE.out]; repeat' (first | omega | split)), rfl⟩)
end Go.Proofs.Ytjdalhnffhoknaa
