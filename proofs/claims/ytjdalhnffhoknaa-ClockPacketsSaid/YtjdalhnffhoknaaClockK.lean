/- The walks of the laws ClockUnwraps, ClockJudges, ClockAdvances. -/
import Derived.Test.YtjdalhnffhoknaaClockJ
namespace Go.Proofs.Ytjdalhnffhoknaa
open Go.RowKit

def True1 (w : World) (e : Ending) (w' : World) : Prop := e = .returned (.bool true) ∧ Keeps (fun _ => False) w w'
set_option maxRecDepth 100000 in set_option maxHeartbeats 1000000 in
theorem unwraps_any (last low : Int) (w : World) (h1 : i64ok last) (h2 : i64ok low) : Calls Try.prog 5 #[.int .i64 last, .int .i64 low] w fun e w' => e = .returned (.bool true) ∧ Keeps (fun _ => False) w w' := by
  obtain ⟨l1, l2⟩ := h1
  obtain ⟨l3, l4⟩ := h2
  have L1 := hid l1; have L2 := hid l2; have L3 := hid l3; have L4 := hid l4
  clear l1 l2 l3 l4
  obtain ⟨b1, b2⟩ := around_b last 274877906944 (by omega)
  obtain ⟨b3, b4⟩ := around_b low 65536 (by omega)
  go_enter Try.func5, Try.ntmps5
  go_wp2_with fail
  refine (counted_any _ _ L1.out L2.out).mono ?_
  rintro e w1 ⟨rfl, rfl⟩
  go_wp2_with fail
  refine (Around_any _ _ _ L3.out L4.out (by omega) (by omega)).mono ?_
  rintro e w1 ⟨rfl, rfl⟩
  generalize around last 274877906944 = n at *
  generalize around low 65536 = k at *
  go_wp2_with fail
  refine (Unwrap_any _ _ _ b1 (by omega)).mono ?_
  rintro e w1 ⟨rfl, rfl⟩
  go_wp2_with fail
  refine (RUnwrap_any _ _ _ b1 (by omega)).mono ?_
  rintro e w1 ⟨rfl, rfl⟩
  go_wp2_with fail
  refine (Unwrap_any _ _ _ b1 (by omega)).mono ?_
  have HU := hid (unwr_near n k b1 b3 b4)
  rw [show unwr n ((n + k) % 65536) = n + k by have := HU.out; rwa [Int.tmod_eq_emod_of_nonneg (by omega)] at this]
  rintro e w1 ⟨rfl, rfl⟩
  go_wp2_with fail
  refine (lives_any _).mono ?_
  rintro e w1 ⟨rfl, hk⟩
  have HK := hid hk; clear hk
  go_wp2
  go_ret
  exact ⟨rfl, HK.out⟩
set_option maxRecDepth 100000 in set_option maxHeartbeats 1000000 in
theorem judges_any (lo hi f u : Int) (w : World) : Calls Try.prog 6 #[.int .i64 lo, .int .i64 hi, .int .i64 f, .int .i64 u] w fun e w' => e = .returned (.bool true) ∧ Keeps (fun _ => False) w w' := by
  go_enter Try.func6, Try.ntmps6
  go_upto_region 2 with (fail)
  generalize hW : World.alloc w _ = W
  have B1 : Blk W w.heap.size #[.int .i64 lo, .int .i64 hi] 25 := by rw [← hW]; exact blk_new _ _ _
  have HK : Hd (Keeps (fun _ => False) w W) := hid (by rw [← hW]; repeat (first | (with_reducible assumption) | (with_reducible exact Keeps.refl _ _) | (with_reducible apply Keeps.drewN) | (with_reducible apply Keeps.drew) | (with_reducible apply Keeps.alloc) | refine Keeps.setCell ?_ (by first | (simp; done) | (simp; omega)) _))
  clear hW
  have c0 : ∀ x : Ext W, x.w.cell? ⟨w.heap.size, 0, none⟩ = some _ := ext_bcell B1 0 rfl
  have c1 : ∀ x : Ext W, x.w.cell? ⟨w.heap.size, 1, none⟩ = some _ := ext_bcell B1 1 rfl
  refine wp_region_ext (by kernel_rfl) (by kernel_rfl) ?_
  repeat (go_big_quiet_step (first | (go_at_call 26; exact ext_call (Judge_any ⟨lo, hi⟩ f u _)) | (go_at_call 27; exact ext_call (RJudge_any ⟨lo, hi⟩ f u _)) | (go_at_call 19; exact ext_call (lives_any _))))
  refine wpQuiet_nil ?_
  rintro _ ⟨x, rfl⟩
  go_wp2
  go_ret
  exact ⟨rfl, HK.out.trans x.k⟩
set_option maxRecDepth 100000 in set_option maxHeartbeats 1000000 in
theorem advances_any (x : Case) (w : World) (hx : x.ok) :
    Calls Try.prog 3 #[.agg #[.int .i64 x.lo, .int .i64 x.wide, .int .i64 x.sent, .int .i64 x.took, .int .i64 x.since, .int .i64 x.tick, .int .i64 x.drift]] w fun e w' => e = .returned (.bool true) ∧ Keeps (fun _ => False) w w' := by
  have HX := hid hx
  obtain ⟨_, _, _, ⟨k1, k2⟩, _, _, ⟨d1, d2⟩⟩ := hx
  have K1 := hid k1; have K2 := hid k2; have D1 := hid d1; have D2 := hid d2
  clear k1 k2 d1 d2
  have b1 := around_b x.took 274877906944 (by omega)
  have b2 := around_b x.drift 1000000 (by omega)
  have b3 := timeIv_b x.lo x.wide
  go_enter Try.func3, Try.ntmps3
  go_wp2_with fail
  have B0 := blk_new w #[.int .i64 x.lo, .int .i64 x.wide, .int .i64 x.sent, .int .i64 x.took, .int .i64 x.since, .int .i64 x.tick, .int .i64 x.drift] 23
  have k0 := keeps_alloc (fun _ => False) w (.cells #[.int .i64 x.lo, .int .i64 x.wide, .int .i64 x.sent, .int .i64 x.took, .int .i64 x.since, .int .i64 x.tick, .int .i64 x.drift] 23)
  generalize World.alloc w _ = W0 at *
  refine (interval_any x _ HX.out).mono ?_
  rintro e w1 ⟨rfl, hk⟩
  have B1 := blk_keep B0 hk (fun h => h)
  have HK1 := hid (k0.trans hk)
  clear B0 k0 hk
  generalize timeIv x.lo x.wide = t at *
  go_upto_region 2 with (fail)
  generalize hW : World.alloc w1 _ = W
  have C0 : Blk W w.heap.size #[.int .i64 x.lo, .int .i64 x.wide, .int .i64 x.sent, .int .i64 x.took, .int .i64 x.since, .int .i64 x.tick, .int .i64 x.drift] 23 := by rw [← hW]; exact blk_alloc B1 _
  have C1 : Blk W w1.heap.size #[.int .i64 t.lo, .int .i64 t.hi] 25 := by rw [← hW]; exact blk_new _ _ _
  have HK : Hd (Keeps (fun _ => False) w W) := hid (by rw [← hW]; exact HK1.out.alloc _)
  clear hW B1 HK1
  have c3 : ∀ y : Ext W, y.w.cell? ⟨w.heap.size, 3, none⟩ = some _ := ext_bcell C0 3 rfl
  have c6 : ∀ y : Ext W, y.w.cell? ⟨w.heap.size, 6, none⟩ = some _ := ext_bcell C0 6 rfl
  have e0 : ∀ y : Ext W, y.w.cell? ⟨w1.heap.size, 0, none⟩ = some _ := ext_bcell C1 0 rfl
  have e1 : ∀ y : Ext W, y.w.cell? ⟨w1.heap.size, 1, none⟩ = some _ := ext_bcell C1 1 rfl
  have p : (0 ≤ t.lo ∧ t.lo ≤ 1000000 ∧ 0 ≤ t.hi ∧ t.hi ≤ 1000000) ∧ (0 ≤ around x.took 274877906944 ∧ around x.took 274877906944 ≤ 1000000000000) ∧ 1 ≤ 1 + around x.drift 1000000 ∧ 1 + around x.drift 1000000 ≤ 1000000000 := by omega
  have P := hid p
  clear p b1 b2 b3
  refine wp_region_ext (by kernel_rfl) (by kernel_rfl) ?_
  repeat (go_big_quiet_step (first | (go_at_call 16; exact ext_same (counted_any _ _ K1.out K2.out)) | (go_at_call 17; exact ext_same (drift_any _ _ D1.out D2.out)) | (go_at_call 15; exact ext_call (Advance_any t _ _ _ P.out.1.1 P.out.1.2.1 P.out.1.2.2.1 P.out.1.2.2.2 P.out.2.1.1 P.out.2.1.2 P.out.2.2.1 P.out.2.2.2)) | (go_at_call 18; exact ext_call (RAdvance_any t _ _ _ P.out.1.1 P.out.1.2.1 P.out.1.2.2.1 P.out.1.2.2.2 P.out.2.1.1 P.out.2.1.2 P.out.2.2.1 P.out.2.2.2)) | (go_at_call 19; exact ext_call (lives_any _))))
  trace_state
  refine wpQuiet_nil ?_
  rintro _ ⟨y, rfl⟩
  go_wp2
  go_ret
  exact ⟨rfl, HK.out.trans y.k⟩
end Go.Proofs.Ytjdalhnffhoknaa
