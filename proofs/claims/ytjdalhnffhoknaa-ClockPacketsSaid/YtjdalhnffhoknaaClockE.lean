/- The walks of the laws' helpers on intervals. -/
import Derived.Test.YtjdalhnffhoknaaClockD
import Derived.Deep.DrawnRows
namespace Go.Proofs.Ytjdalhnffhoknaa
open Go.RowKit
attribute [local go_sem ↓] Go.wp_at_zero Go.wp_at_succ

def i64ok (n : Int) : Prop := -9223372036854775808 ≤ n ∧ n ≤ 9223372036854775807
structure Case where
  lo : Int
  wide : Int
  sent : Int
  took : Int
  since : Int
  tick : Int
  drift : Int
def Case.ok (x : Case) : Prop := i64ok x.lo ∧ i64ok x.wide ∧ i64ok x.sent ∧ i64ok x.took ∧ i64ok x.since ∧ i64ok x.tick ∧ i64ok x.drift
set_option maxRecDepth 100000 in set_option maxHeartbeats 400000 in
theorem Judge_any (t : Iv) (f u : Int) (w : World) : Calls Try.prog 26 #[.agg #[.int .i64 t.lo, .int .i64 t.hi], .int .i64 f, .int .i64 u] w fun e w' => e = .returned (.int .i64 (judge t f u)) ∧ Keeps (fun _ => False) w w' := by
  have HK := hid (keeps_alloc (fun _ => False) w (.cells #[.int .i64 t.lo, .int .i64 t.hi] 25))
  by_cases h : u ≤ t.hi
  · have HE : Hd (judge t f u = 1) := hid (by unfold judge; rw [if_pos h])
    go_enter Try.func26, Try.ntmps26
    go_wp2
    go_ret
    exact ⟨ret_int HE.out.symm, HK.out⟩
  · by_cases h2 : t.lo < f
    · have HE : Hd (judge t f u = -1) := hid (by unfold judge; rw [if_neg h, if_pos h2])
      go_enter Try.func26, Try.ntmps26
      go_wp2
      go_ret
      exact ⟨ret_int HE.out.symm, HK.out⟩
    · have HE : Hd (judge t f u = 0) := hid (by unfold judge; rw [if_neg h, if_neg h2])
      go_enter Try.func26, Try.ntmps26
      go_wp2
      go_ret
      exact ⟨ret_int HE.out.symm, HK.out⟩
set_option maxRecDepth 100000 in set_option maxHeartbeats 400000 in
theorem RJudge_any (t : Iv) (f u : Int) (w : World) : Calls Try.prog 27 #[.agg #[.int .i64 t.lo, .int .i64 t.hi], .int .i64 f, .int .i64 u] w fun e w' => e = .returned (.int .i64 (judge t f u)) ∧ Keeps (fun _ => False) w w' := by
  have HK := hid (keeps_alloc (fun _ => False) w (.cells #[.int .i64 t.lo, .int .i64 t.hi] 25))
  by_cases h : u ≤ t.hi
  · have HE : Hd (judge t f u = 1) := hid (by unfold judge; rw [if_pos h])
    go_enter Try.func27, Try.ntmps27
    go_wp2
    go_ret
    exact ⟨ret_int HE.out.symm, HK.out⟩
  · by_cases h2 : t.lo < f
    · have HE : Hd (judge t f u = -1) := hid (by unfold judge; rw [if_neg h, if_pos h2])
      go_enter Try.func27, Try.ntmps27
      go_wp2
      go_ret
      exact ⟨ret_int HE.out.symm, HK.out⟩
    · have HE : Hd (judge t f u = 0) := hid (by unfold judge; rw [if_neg h, if_neg h2])
      go_enter Try.func27, Try.ntmps27
      go_wp2
      go_ret
      exact ⟨ret_int HE.out.symm, HK.out⟩
def RetB (P : Prop) (w : World) (e : Ending) (w' : World) : Prop := ∃ b : Bool, e = .returned (.bool b) ∧ (b = true ↔ P) ∧ Keeps (fun _ => False) w w'
set_option maxRecDepth 100000 in set_option maxHeartbeats 400000 in
theorem holds_any (t : Iv) (n : Int) (w : World) (h : t.lo ≤ n ∧ n ≤ t.hi) : Calls Try.prog 38 #[.agg #[.int .i64 t.lo, .int .i64 t.hi], .int .i64 n] w fun e w' => e = .returned (.bool true) ∧ Keeps (fun _ => False) w w' := by
  have HK := hid (keeps_alloc (fun _ => False) w (.cells #[.int .i64 t.lo, .int .i64 t.hi] 25))
  obtain ⟨h1, h2⟩ := h
  have t1 : decide (t.lo ≤ n) = true := by simp; exact h1
  have t2 : decide (n ≤ t.hi) = true := by simp; exact h2
  go_enter Try.func38, Try.ntmps38
  go_wp2
  go_ret
  exact ⟨rfl, HK.out⟩
set_option maxRecDepth 100000 in set_option maxHeartbeats 400000 in
theorem interval_any (x : Case) (w : World) (hx : x.ok) :
    Calls Try.prog 14 #[.agg #[.int .i64 x.lo, .int .i64 x.wide, .int .i64 x.sent, .int .i64 x.took, .int .i64 x.since, .int .i64 x.tick, .int .i64 x.drift]] w fun e w' => RetIv (timeIv x.lo x.wide) w e w' := by
  have HX := hid hx; clear hx
  go_enter Try.func14, Try.ntmps14
  go_wp2_with fail
  generalize hW : World.alloc (World.alloc w _) _ = W
  have B2 : Blk W (w.heap.size + 1) #[.int .i64 0, .int .i64 0] 25 := by rw [← hW]; exact blk_new' _ _ _ _ (by simp)
  have HK : Hd (Keeps (fun _ => False) w W) := hid (by rw [← hW]; repeat (first | (with_reducible assumption) | (with_reducible exact Keeps.refl _ _) | (with_reducible apply Keeps.drewN) | (with_reducible apply Keeps.drew) | (with_reducible apply Keeps.alloc) | refine Keeps.setCell ?_ (by first | (simp; done) | (simp; omega)) _))
  clear hW
  refine (Time_any _ _ _ HX.out.1.1 HX.out.1.2 HX.out.2.1.1 HX.out.2.1.2).mono ?_
  rintro e w1 ⟨rfl, hk⟩
  have B3 := blk_keep B2 hk (fun h => h)
  obtain ⟨KF, F2⟩ := fin2 (HK.out.trans hk) (b := w.heap.size + 1) (by omega) B3 (.int .i64 (timeIv x.lo x.wide).lo) (.int .i64 (timeIv x.lo x.wide).hi)
  have r0 := blk_cell F2 0
  have r1 := blk_cell F2 1
  have g6 : w1.cell? ⟨w.heap.size + 1, 0, none⟩ = some (.int .i64 0) := blk_cell B3 0
  have g7 : w1.cell? ⟨w.heap.size + 1, 1, none⟩ = some (.int .i64 0) := blk_cell B3 1
  have g8 : w1.frozen? ⟨w.heap.size + 1, 0, none⟩ = false := blk_free B3 0
  have g9 : w1.frozen? ⟨w.heap.size + 1, 1, none⟩ = false := blk_free B3 1
  have HKF := hid KF
  clear KF F2 B2 B3 hk
  go_wp2
  exact bodyPost_ret (v := .agg #[.int .i64 (timeIv x.lo x.wide).lo, .int .i64 (timeIv x.lo x.wide).hi]) (by simp [results, Try.results14, go_sem, r0, r1]) rfl ⟨rfl, HKF.out⟩
/-- the correlation of a case and its present counter -/
def Case.sm (x : Case) : Sm := ⟨around x.sent 274877906944, around x.sent 274877906944 + around x.took 274877906944, around x.tick 1000001⟩
def Case.now (x : Case) : Int := around x.sent 274877906944 + around x.took 274877906944 + around x.since 274877906944
theorem Case.sm_ok (x : Case) : (0 ≤ x.sm.sent ∧ x.sm.sent ≤ x.sm.recv ∧ x.sm.recv ≤ x.now ∧ 0 ≤ x.sm.tick ∧ x.sm.tick ≤ 1000000 ∧ x.sm.recv ≤ 549755813888) ∧ x.now ≤ 824633720832 := by
  have h1 := around_b x.sent 274877906944 (by omega)
  have h2 := around_b x.took 274877906944 (by omega)
  have h3 := around_b x.since 274877906944 (by omega)
  have h4 := around_b x.tick 1000001 (by omega)
  unfold Case.sm Case.now
  simp only
  omega
def RetSm (s : Sm) (n : Int) (w : World) (e : Ending) (w' : World) : Prop := e = .returned (.tuple #[.agg #[.int .i64 s.sent, .int .i64 s.recv, .int .i64 s.tick], .int .i64 n]) ∧ Keeps (fun _ => False) w w'
set_option maxRecDepth 100000 in set_option maxHeartbeats 400000 in
theorem sample_any (x : Case) (w : World) (hx : x.ok) :
    Calls Try.prog 20 #[.agg #[.int .i64 x.lo, .int .i64 x.wide, .int .i64 x.sent, .int .i64 x.took, .int .i64 x.since, .int .i64 x.tick, .int .i64 x.drift]] w fun e w' => RetSm x.sm x.now w e w' := by
  obtain ⟨_, _, ⟨s1, s2⟩, ⟨k1, k2⟩, ⟨n1, n2⟩, ⟨t1, t2⟩, _⟩ := hx
  have S1 := hid s1; have S2 := hid s2; have K1 := hid k1; have K2 := hid k2; have N1 := hid n1; have N2 := hid n2; have T1 := hid t1; have T2 := hid t2
  clear s1 s2 k1 k2 n1 n2 t1 t2
  obtain ⟨b1, b2⟩ := around_b x.sent 274877906944 (by omega)
  obtain ⟨b3, b4⟩ := around_b x.took 274877906944 (by omega)
  obtain ⟨b5, b6⟩ := around_b x.since 274877906944 (by omega)
  go_enter Try.func20, Try.ntmps20
  go_wp2_with fail
  refine (counted_any _ _ S1.out S2.out).mono ?_
  rintro e w1 ⟨rfl, rfl⟩
  go_wp2_with fail
  refine (counted_any _ _ K1.out K2.out).mono ?_
  rintro e w1 ⟨rfl, rfl⟩
  go_wp2_with fail
  generalize hW : World.alloc (World.alloc w _) _ = W
  have B1 : Blk W w.heap.size #[.int .i64 x.lo, .int .i64 x.wide, .int .i64 x.sent, .int .i64 x.took, .int .i64 x.since, .int .i64 x.tick, .int .i64 x.drift] 23 := by rw [← hW]; exact blk_alloc (blk_new _ _ _) _
  have B2 : Blk W (w.heap.size + 1) #[.int .i64 0, .int .i64 0, .int .i64 0] 32 := by rw [← hW]; exact blk_new' _ _ _ _ (by simp)
  have HK : Hd (Keeps (fun _ => False) w W) := hid (by rw [← hW]; repeat (first | (with_reducible assumption) | (with_reducible exact Keeps.refl _ _) | (with_reducible apply Keeps.drewN) | (with_reducible apply Keeps.drew) | (with_reducible apply Keeps.alloc) | refine Keeps.setCell ?_ (by first | (simp; done) | (simp; omega)) _))
  clear hW
  have c4 : W.cell? ⟨w.heap.size, 4, none⟩ = some (.int .i64 x.since) := blk_cell B1 4
  have c5 : W.cell? ⟨w.heap.size, 5, none⟩ = some (.int .i64 x.tick) := blk_cell B1 5
  have d0 : W.cell? ⟨w.heap.size + 1, 0, none⟩ = some (.int .i64 0) := blk_cell B2 0
  have d1 : W.cell? ⟨w.heap.size + 1, 1, none⟩ = some (.int .i64 0) := blk_cell B2 1
  have d2 : W.cell? ⟨w.heap.size + 1, 2, none⟩ = some (.int .i64 0) := blk_cell B2 2
  have d3 : W.frozen? ⟨w.heap.size + 1, 0, none⟩ = false := blk_free B2 0
  have d4 : W.frozen? ⟨w.heap.size + 1, 1, none⟩ = false := blk_free B2 1
  have d5 : W.frozen? ⟨w.heap.size + 1, 2, none⟩ = false := blk_free B2 2
  have W1 : IntKind.i64.wrap (around x.sent 274877906944 + around x.took 274877906944 + around x.since 274877906944) = around x.sent 274877906944 + around x.took 274877906944 + around x.since 274877906944 := IntWalk.i64_in _ (by omega)
  obtain ⟨KF, F2⟩ := fin3 HK.out (b := w.heap.size + 1) (by omega) B2 (.int .i64 (around x.sent 274877906944)) (.int .i64 (around x.sent 274877906944 + around x.took 274877906944)) (.int .i64 (around x.tick 1000001))
  have HKF := hid KF; have HF2 := hid F2
  clear KF F2
  go_region_held3 (fun w' => w'.cell? ⟨w.heap.size, 4, none⟩ = some (.int .i64 x.since) ∧ w'.cell? ⟨w.heap.size, 5, none⟩ = some (.int .i64 x.tick)) (go_keep) (first | (go_at_call 23; refine (Around_any _ _ _ T1.out T2.out (by omega) (by omega)).mono ?_; rintro e w1 ⟨rfl, rfl⟩) | (go_at_call 16; refine (counted_any _ _ N1.out N2.out).mono ?_; rintro e w1 ⟨rfl, rfl⟩))
  all_goals
    clear W1
    have r0 := blk_cell HF2.out 0
    have r1 := blk_cell HF2.out 1
    have r2 := blk_cell HF2.out 2
    go_wp2
    exact bodyPost_ret (v := .tuple #[.agg #[.int .i64 (around x.sent 274877906944), .int .i64 (around x.sent 274877906944 + around x.took 274877906944), .int .i64 (around x.tick 1000001)], .int .i64 (around x.sent 274877906944 + around x.took 274877906944 + around x.since 274877906944)]) (by simp [results, Try.results20, go_sem, r0, r1, r2]) rfl ⟨rfl, HKF.out.drew⟩
end Go.Proofs.Ytjdalhnffhoknaa
