/- The walk of the law ClockSound. -/
import Derived.Test.YtjdalhnffhoknaaClockK
namespace Go.Proofs.Ytjdalhnffhoknaa
open Go.RowKit


set_option maxRecDepth 100000 in set_option maxHeartbeats 1000000 in
theorem sound_any (x : Case) (a b c : Int) (w : World) (hx : x.ok) (ha : i64ok a) (hb : i64ok b) (hc : i64ok c) :
    Calls Try.prog 9 #[.agg #[.int .i64 x.lo, .int .i64 x.wide, .int .i64 x.sent, .int .i64 x.took, .int .i64 x.since, .int .i64 x.tick, .int .i64 x.drift], .int .i64 a, .int .i64 b, .int .i64 c] w fun e w' => e = .returned (.bool true) ∧ Keeps (fun _ => False) w w' := by
  have HX := hid hx; have HA := hid ha; have HB := hid hb; have HC := hid hc
  obtain ⟨_, _, s1, s2, s3, s4, s5⟩ := hx
  have S1 := hid s1; have S2 := hid s2; have S3 := hid s3; have S4 := hid s4; have S5 := hid s5
  clear s1 s2 s3 s4 s5 ha hb hc
  obtain ⟨d0, d1⟩ := around_b x.drift 1000000 (by omega)
  obtain ⟨p0, p1⟩ := around_b x.sent 1000 (by omega)
  obtain ⟨p2, p3⟩ := around_b x.took 5000 (by omega)
  obtain ⟨p4, p5⟩ := around_b x.since 5000 (by omega)
  obtain ⟨t0, t1, t2⟩ := timeIv_b x.lo x.wide
  go_enter Try.func9, Try.ntmps9
  go_upto_region 1 with (fail)
  generalize hW : World.alloc w _ = W1
  have B_x : Hd (Blk W1 (w.heap.size) #[.int .i64 x.lo, .int .i64 x.wide, .int .i64 x.sent, .int .i64 x.took, .int .i64 x.since, .int .i64 x.tick, .int .i64 x.drift] 23) := hid (by rw [← hW]; exact (blk_new _ _ _))
  have HK : Hd (Keeps (fun _ => False) w W1) := hid (by rw [← hW]; exact (Keeps.alloc (Keeps.refl _ _) _))
  have z1 : w.heap.size + 1 ≤ W1.heap.size := by rw [← hW]; simp
  clear hW
  have o_x_6 : W1.cell? ⟨w.heap.size, 6, none⟩ = some (.int .i64 (x.drift)) := blk_cell B_x.out 6
  go_wp2_with fail
  refine (drift_any _ _ S5.out.1 S5.out.2).mono ?_
  rintro e wx ⟨rfl, rfl⟩
  clear o_x_6
  have dd : 1 ≤ 1 + around x.drift 1000000 := by omega
  have de : 1 + around x.drift 1000000 ≤ 1000000000 := by omega
  generalize 1 + around x.drift 1000000 = d at *
  clear d0 d1
  have o_x_0 : W1.cell? ⟨w.heap.size, 0, none⟩ = some (.int .i64 (x.lo)) := blk_cell B_x.out 0
  have o_x_1 : W1.cell? ⟨w.heap.size, 1, none⟩ = some (.int .i64 (x.wide)) := blk_cell B_x.out 1
  have o_x_2 : W1.cell? ⟨w.heap.size, 2, none⟩ = some (.int .i64 (x.sent)) := blk_cell B_x.out 2
  have o_x_3 : W1.cell? ⟨w.heap.size, 3, none⟩ = some (.int .i64 (x.took)) := blk_cell B_x.out 3
  have o_x_4 : W1.cell? ⟨w.heap.size, 4, none⟩ = some (.int .i64 (x.since)) := blk_cell B_x.out 4
  have o_x_5 : W1.cell? ⟨w.heap.size, 5, none⟩ = some (.int .i64 (x.tick)) := blk_cell B_x.out 5
  have o_x_6 : W1.cell? ⟨w.heap.size, 6, none⟩ = some (.int .i64 (x.drift)) := blk_cell B_x.out 6
  go_wp2_with fail
  clear o_x_0 o_x_1 o_x_2 o_x_3 o_x_4 o_x_5 o_x_6
  refine (interval_any x _ HX.out).mono ?_
  rintro e w2 ⟨rfl, hk⟩
  replace B_x : Hd (Blk w2 (w.heap.size) #[.int .i64 x.lo, .int .i64 x.wide, .int .i64 x.sent, .int .i64 x.took, .int .i64 x.since, .int .i64 x.tick, .int .i64 x.drift] 23) := hid (blk_keep B_x.out hk (fun h => h))
  replace HK : Hd (Keeps (fun _ => False) w w2) := hid (HK.out.trans hk)
  have z2 := hk.size
  clear hk
  generalize timeIv x.lo x.wide = t at *
  go_upto_region 3 with (fail)
  generalize hW : World.alloc w2 _ = W3
  replace B_x : Hd (Blk W3 (w.heap.size) #[.int .i64 x.lo, .int .i64 x.wide, .int .i64 x.sent, .int .i64 x.took, .int .i64 x.since, .int .i64 x.tick, .int .i64 x.drift] 23) := hid (by rw [← hW]; exact (blk_alloc B_x.out _))
  have B_t : Hd (Blk W3 (w2.heap.size) #[.int .i64 t.lo, .int .i64 t.hi] 25) := hid (by rw [← hW]; exact (blk_new _ _ _))
  replace HK : Hd (Keeps (fun _ => False) w W3) := hid (by rw [← hW]; exact (Keeps.alloc (HK.out) _))
  have z3 : w2.heap.size + 1 ≤ W3.heap.size := by rw [← hW]; simp
  clear hW
  have o_x_2 : W3.cell? ⟨w.heap.size, 2, none⟩ = some (.int .i64 (x.sent)) := blk_cell B_x.out 2
  have o_x_3 : W3.cell? ⟨w.heap.size, 3, none⟩ = some (.int .i64 (x.took)) := blk_cell B_x.out 3
  have o_x_4 : W3.cell? ⟨w.heap.size, 4, none⟩ = some (.int .i64 (x.since)) := blk_cell B_x.out 4
  go_wp2_with fail
  refine (Around_any _ _ _ S1.out.1 S1.out.2 (by omega) (by omega)).mono ?_
  rintro e wx ⟨rfl, rfl⟩
  generalize around x.sent 1000 = sent at *
  go_wp2_with fail
  refine (Around_any _ _ _ S2.out.1 S2.out.2 (by omega) (by omega)).mono ?_
  rintro e wx ⟨rfl, rfl⟩
  generalize around x.took 5000 = took at *
  go_wp2_with fail
  refine (Around_any _ _ _ S3.out.1 S3.out.2 (by omega) (by omega)).mono ?_
  rintro e wx ⟨rfl, rfl⟩
  generalize around x.since 5000 = since at *
  clear o_x_2 o_x_3 o_x_4
  go_upto_region 6 with (fail)
  obtain ⟨a0, a1⟩ := around_b a (t.hi - t.lo + 1) (by omega)
  have e0 : ∀ y : Ext W3, y.w.cell? ⟨w2.heap.size, 0, none⟩ = some _ := ext_bcell B_t.out 0 rfl
  have e1 : ∀ y : Ext W3, y.w.cell? ⟨w2.heap.size, 1, none⟩ = some _ := ext_bcell B_t.out 1 rfl
  have w1 : IntKind.i64.wrap (t.hi - t.lo) = t.hi - t.lo := IntWalk.i64_in _ (by omega)
  have w2 : IntKind.i64.wrap (t.hi - t.lo + 1) = t.hi - t.lo + 1 := IntWalk.i64_in _ (by omega)
  have w3 : IntKind.i64.wrap (t.lo + around a (t.hi - t.lo + 1)) = t.lo + around a (t.hi - t.lo + 1) := IntWalk.i64_in _ (by omega)
  have q1 : 1 ≤ t.hi - t.lo + 1 := by omega
  have q2 : t.hi - t.lo + 1 ≤ 1000000000000000 := by omega
  refine wp_region_ext (by kernel_rfl) (by kernel_rfl) ?_
  repeat (go_big_quiet_step (first | (go_at_call 23; exact ext_same (Around_any _ _ _ HA.out.1 HA.out.2 q1 q2))))
  refine wpQuiet_nil ?_
  rintro _ ⟨y, rfl⟩
  clear w1 w2 w3 e0 e1
  have hk := y.k
  generalize y.w = wy at *
  replace B_x : Hd (Blk wy (w.heap.size) #[.int .i64 x.lo, .int .i64 x.wide, .int .i64 x.sent, .int .i64 x.took, .int .i64 x.since, .int .i64 x.tick, .int .i64 x.drift] 23) := hid (blk_keep B_x.out hk (fun h => h))
  replace B_t : Hd (Blk wy (w2.heap.size) #[.int .i64 t.lo, .int .i64 t.hi] 25) := hid (blk_keep B_t.out hk (fun h => h))
  replace HK : Hd (Keeps (fun _ => False) w wy) := hid (HK.out.trans hk)
  have z4 := hk.size
  clear hk
  generalize around a (t.hi - t.lo + 1) = A at *
  go_wp2_with fail
  refine (Ceil_any _ _ _ p2 (by omega) dd de).mono ?_
  rintro e w5 ⟨rfl, hd⟩
  have hk := drawn_keeps (fun _ => False) hd
  clear hd
  replace B_x : Hd (Blk w5 (w.heap.size) #[.int .i64 x.lo, .int .i64 x.wide, .int .i64 x.sent, .int .i64 x.took, .int .i64 x.since, .int .i64 x.tick, .int .i64 x.drift] 23) := hid (blk_keep B_x.out hk (fun h => h))
  replace B_t : Hd (Blk w5 (w2.heap.size) #[.int .i64 t.lo, .int .i64 t.hi] 25) := hid (blk_keep B_t.out hk (fun h => h))
  replace HK : Hd (Keeps (fun _ => False) w w5) := hid (HK.out.trans hk)
  have z5 := hk.size
  clear hk
  go_wp2_with fail
  refine (Ceil_any _ _ _ p4 (by omega) dd de).mono ?_
  rintro e w6 ⟨rfl, hd⟩
  have hk := drawn_keeps (fun _ => False) hd
  clear hd
  replace B_x : Hd (Blk w6 (w.heap.size) #[.int .i64 x.lo, .int .i64 x.wide, .int .i64 x.sent, .int .i64 x.took, .int .i64 x.since, .int .i64 x.tick, .int .i64 x.drift] 23) := hid (blk_keep B_x.out hk (fun h => h))
  replace B_t : Hd (Blk w6 (w2.heap.size) #[.int .i64 t.lo, .int .i64 t.hi] 25) := hid (blk_keep B_t.out hk (fun h => h))
  replace HK : Hd (Keeps (fun _ => False) w w6) := hid (HK.out.trans hk)
  have z6 := hk.size
  clear hk
  have e2 := ceil_le p2 dd
  have e3 := ceil_nonneg p2 dd
  have e4 := ceil_le p4 dd
  have e5 := ceil_nonneg p4 dd
  obtain ⟨b0, b1⟩ := around_b b (2 * ceil took d + 1) (by omega)
  obtain ⟨c0, c1⟩ := around_b c (2 * ceil since d + 1) (by omega)
  go_wp2_with fail
  refine (Around_any _ _ _ HB.out.1 HB.out.2 (by omega) (by omega)).mono ?_
  rintro e wx ⟨rfl, rfl⟩
  go_wp2_with fail
  refine (Around_any _ _ _ HC.out.1 HC.out.2 (by omega) (by omega)).mono ?_
  rintro e wx ⟨rfl, rfl⟩
  generalize around b (2 * ceil took d + 1) = B at *
  generalize around c (2 * ceil since d + 1) = D at *
  obtain ⟨k0, k1⟩ := around_b x.tick (took - ceil took d + B + 1) (by omega)
  by_cases hnow : 1000000 < t.lo + A + (took - ceil took d + B) + since - ceil since d + D
  · go_wp2_with fail
    refine (lives_any _).mono ?_
    rintro e w7 ⟨rfl, hk⟩
    replace B_x : Hd (Blk w7 (w.heap.size) #[.int .i64 x.lo, .int .i64 x.wide, .int .i64 x.sent, .int .i64 x.took, .int .i64 x.since, .int .i64 x.tick, .int .i64 x.drift] 23) := hid (blk_keep B_x.out hk (fun h => h))
    replace B_t : Hd (Blk w7 (w2.heap.size) #[.int .i64 t.lo, .int .i64 t.hi] 25) := hid (blk_keep B_t.out hk (fun h => h))
    replace HK : Hd (Keeps (fun _ => False) w w7) := hid (HK.out.trans hk)
    have z7 := hk.size
    clear hk
    go_wp2
    go_ret
    exact ⟨rfl, HK.out⟩
  · have HS := hid (sound t sent took since d A B D (around x.tick (took - ceil took d + B + 1)) t0 t1 t2 p2 p4 dd p0 a0 a1 b0 b1 c0 c1 k0 k1 (by omega))
    have NB : Hd (¬ Sm.bad ⟨sent, sent + took, t.lo + A + around x.tick (took - ceil took d + B + 1)⟩ (sent + took + since)) := hid (by unfold Sm.bad; simp only; omega)
    have m1 := adv_lo t took d
    have m2 := adv_hi t took d
    have o_t_0 : w6.cell? ⟨w2.heap.size, 0, none⟩ = some (.int .i64 (t.lo)) := blk_cell B_t.out 0
    have o_t_1 : w6.cell? ⟨w2.heap.size, 1, none⟩ = some (.int .i64 (t.hi)) := blk_cell B_t.out 1
    go_wp2_with fail
    clear o_t_0 o_t_1
    refine (Advance_any t took d _ t0 (by omega) (by omega) t2 p2 (by omega) dd de).mono ?_
    rintro e w7 ⟨rfl, hk⟩
    replace B_x : Hd (Blk w7 (w.heap.size) #[.int .i64 x.lo, .int .i64 x.wide, .int .i64 x.sent, .int .i64 x.took, .int .i64 x.since, .int .i64 x.tick, .int .i64 x.drift] 23) := hid (blk_keep B_x.out hk (fun h => h))
    replace B_t : Hd (Blk w7 (w2.heap.size) #[.int .i64 t.lo, .int .i64 t.hi] 25) := hid (blk_keep B_t.out hk (fun h => h))
    replace HK : Hd (Keeps (fun _ => False) w w7) := hid (HK.out.trans hk)
    have z7 := hk.size
    clear hk
    have HAD : Hd (adv t took d = adv t took d) := hid rfl
    go_wp2_with fail
    refine (Advance_any (adv t took d) since d _ m1.1 m1.2 m2.1 m2.2 p4 (by omega) dd de).mono ?_
    rintro e w8 ⟨rfl, hk⟩
    replace B_x : Hd (Blk w8 (w.heap.size) #[.int .i64 x.lo, .int .i64 x.wide, .int .i64 x.sent, .int .i64 x.took, .int .i64 x.since, .int .i64 x.tick, .int .i64 x.drift] 23) := hid (blk_keep B_x.out hk (fun h => h))
    replace B_t : Hd (Blk w8 (w2.heap.size) #[.int .i64 t.lo, .int .i64 t.hi] 25) := hid (blk_keep B_t.out hk (fun h => h))
    replace HK : Hd (Keeps (fun _ => False) w w8) := hid (HK.out.trans hk)
    have z8 := hk.size
    clear hk
    clear HAD m1 m2
    generalize adv (adv t took d) since d = wd at *
    go_upto_region 15 with (fail)
    generalize hW : World.alloc w8 _ = W9
    replace B_x : Hd (Blk W9 (w.heap.size) #[.int .i64 x.lo, .int .i64 x.wide, .int .i64 x.sent, .int .i64 x.took, .int .i64 x.since, .int .i64 x.tick, .int .i64 x.drift] 23) := hid (by rw [← hW]; exact (blk_alloc B_x.out _))
    replace B_t : Hd (Blk W9 (w2.heap.size) #[.int .i64 t.lo, .int .i64 t.hi] 25) := hid (by rw [← hW]; exact (blk_alloc B_t.out _))
    have B_wd : Hd (Blk W9 (w8.heap.size) #[.int .i64 wd.lo, .int .i64 wd.hi] 25) := hid (by rw [← hW]; exact (blk_new _ _ _))
    replace HK : Hd (Keeps (fun _ => False) w W9) := hid (by rw [← hW]; exact (Keeps.alloc (HK.out) _))
    have z9 : w8.heap.size + 1 ≤ W9.heap.size := by rw [← hW]; simp
    clear hW
    have o_x_5 : W9.cell? ⟨w.heap.size, 5, none⟩ = some (.int .i64 (x.tick)) := blk_cell B_x.out 5
    go_wp2_with fail
    refine (Around_any _ _ _ S4.out.1 S4.out.2 (by omega) (by omega)).mono ?_
    rintro e wx ⟨rfl, rfl⟩
    generalize around x.tick (took - ceil took d + B + 1) = k at *
    have r1 : t.lo + A + k ≤ 10000000 := by omega
    go_upto_region 16 with (fail)
    clear o_x_5
    generalize hW : World.alloc W9 _ = W10
    replace B_x : Hd (Blk W10 (w.heap.size) #[.int .i64 x.lo, .int .i64 x.wide, .int .i64 x.sent, .int .i64 x.took, .int .i64 x.since, .int .i64 x.tick, .int .i64 x.drift] 23) := hid (by rw [← hW]; exact (blk_alloc B_x.out _))
    replace B_t : Hd (Blk W10 (w2.heap.size) #[.int .i64 t.lo, .int .i64 t.hi] 25) := hid (by rw [← hW]; exact (blk_alloc B_t.out _))
    replace B_wd : Hd (Blk W10 (w8.heap.size) #[.int .i64 wd.lo, .int .i64 wd.hi] 25) := hid (by rw [← hW]; exact (blk_alloc B_wd.out _))
    have B_s : Hd (Blk W10 (W9.heap.size) #[.int .i64 sent, .int .i64 (sent + took), .int .i64 (t.lo + A + k)] 32) := hid (by rw [← hW]; exact (blk_new _ _ _))
    replace HK : Hd (Keeps (fun _ => False) w W10) := hid (by rw [← hW]; exact (Keeps.alloc (HK.out) _))
    have z10 : W9.heap.size + 1 ≤ W10.heap.size := by rw [← hW]; simp
    clear hW
    have o_s_0 : W10.cell? ⟨W9.heap.size, 0, none⟩ = some (.int .i64 (sent)) := blk_cell B_s.out 0
    have o_s_1 : W10.cell? ⟨W9.heap.size, 1, none⟩ = some (.int .i64 (sent + took)) := blk_cell B_s.out 1
    have o_s_2 : W10.cell? ⟨W9.heap.size, 2, none⟩ = some (.int .i64 (t.lo + A + k)) := blk_cell B_s.out 2
    have o_wd_0 : W10.cell? ⟨w8.heap.size, 0, none⟩ = some (.int .i64 (wd.lo)) := blk_cell B_wd.out 0
    have o_wd_1 : W10.cell? ⟨w8.heap.size, 1, none⟩ = some (.int .i64 (wd.hi)) := blk_cell B_wd.out 1
    go_wp2_with fail
    clear o_s_0 o_s_1 o_s_2 o_wd_0 o_wd_1
    refine (Correlate_ok wd ⟨sent, sent + took, t.lo + A + k⟩ (sent + took + since) d _ NB.out (by omega) dd de).mono ?_
    unfold RetCor
    have hS := HS.out
    rw [hS.2.2.1]
    rintro e w11 ⟨rfl, hk⟩
    replace B_x : Hd (Blk w11 (w.heap.size) #[.int .i64 x.lo, .int .i64 x.wide, .int .i64 x.sent, .int .i64 x.took, .int .i64 x.since, .int .i64 x.tick, .int .i64 x.drift] 23) := hid (blk_keep B_x.out hk (fun h => h))
    replace B_t : Hd (Blk w11 (w2.heap.size) #[.int .i64 t.lo, .int .i64 t.hi] 25) := hid (blk_keep B_t.out hk (fun h => h))
    replace B_wd : Hd (Blk w11 (w8.heap.size) #[.int .i64 wd.lo, .int .i64 wd.hi] 25) := hid (blk_keep B_wd.out hk (fun h => h))
    replace B_s : Hd (Blk w11 (W9.heap.size) #[.int .i64 sent, .int .i64 (sent + took), .int .i64 (t.lo + A + k)] 32) := hid (blk_keep B_s.out hk (fun h => h))
    replace HK : Hd (Keeps (fun _ => False) w w11) := hid (HK.out.trans hk)
    have z11 := hk.size
    clear hk
    clear hS
    have HS2 : Hd (wd.lo ≤ t.lo + A + (took - ceil took d + B) + since - ceil since d + D ∧ t.lo + A + (took - ceil took d + B) + since - ceil since d + D ≤ wd.hi ∧ (cor wd ⟨sent, sent + took, t.lo + A + k⟩ (sent + took + since) d).1.lo ≤ t.lo + A + (took - ceil took d + B) + since - ceil since d + D ∧ t.lo + A + (took - ceil took d + B) + since - ceil since d + D ≤ (cor wd ⟨sent, sent + took, t.lo + A + k⟩ (sent + took + since) d).1.hi ∧ wd.lo ≤ (cor wd ⟨sent, sent + took, t.lo + A + k⟩ (sent + took + since) d).1.lo ∧ (cor wd ⟨sent, sent + took, t.lo + A + k⟩ (sent + took + since) d).1.hi ≤ wd.hi) := hid (by have := HS.out; exact ⟨this.1, this.2.1, this.2.2.2⟩)
    clear HS
    generalize (cor wd ⟨sent, sent + took, t.lo + A + k⟩ (sent + took + since) d).1 = n at *
    go_upto_region 17 with (fail)
    generalize hW : World.alloc w11 _ = W12
    replace B_x : Hd (Blk W12 (w.heap.size) #[.int .i64 x.lo, .int .i64 x.wide, .int .i64 x.sent, .int .i64 x.took, .int .i64 x.since, .int .i64 x.tick, .int .i64 x.drift] 23) := hid (by rw [← hW]; exact (blk_alloc B_x.out _))
    replace B_t : Hd (Blk W12 (w2.heap.size) #[.int .i64 t.lo, .int .i64 t.hi] 25) := hid (by rw [← hW]; exact (blk_alloc B_t.out _))
    replace B_wd : Hd (Blk W12 (w8.heap.size) #[.int .i64 wd.lo, .int .i64 wd.hi] 25) := hid (by rw [← hW]; exact (blk_alloc B_wd.out _))
    replace B_s : Hd (Blk W12 (W9.heap.size) #[.int .i64 sent, .int .i64 (sent + took), .int .i64 (t.lo + A + k)] 32) := hid (by rw [← hW]; exact (blk_alloc B_s.out _))
    have B_n : Hd (Blk W12 (w11.heap.size) #[.int .i64 n.lo, .int .i64 n.hi] 25) := hid (by rw [← hW]; exact (blk_new _ _ _))
    replace HK : Hd (Keeps (fun _ => False) w W12) := hid (by rw [← hW]; exact (Keeps.alloc (HK.out) _))
    have z12 : w11.heap.size + 1 ≤ W12.heap.size := by rw [← hW]; simp
    clear hW
    obtain ⟨u1, u2, u3, u4, u5, u6⟩ := HS2.out
    generalize hnw : t.lo + A + (took - ceil took d + B) + since - ceil since d + D = now at *
    clear hnw
    have o_wd_0 : W12.cell? ⟨w8.heap.size, 0, none⟩ = some (.int .i64 (wd.lo)) := blk_cell B_wd.out 0
    have o_wd_1 : W12.cell? ⟨w8.heap.size, 1, none⟩ = some (.int .i64 (wd.hi)) := blk_cell B_wd.out 1
    have o_n_0 : W12.cell? ⟨w11.heap.size, 0, none⟩ = some (.int .i64 (n.lo)) := blk_cell B_n.out 0
    have o_n_1 : W12.cell? ⟨w11.heap.size, 1, none⟩ = some (.int .i64 (n.hi)) := blk_cell B_n.out 1
    go_wp2_with fail
    clear o_wd_0 o_wd_1 o_n_0 o_n_1
    refine (holds_any wd now _ ⟨u1, u2⟩).mono ?_
    rintro e w13 ⟨rfl, hk⟩
    replace B_x : Hd (Blk w13 (w.heap.size) #[.int .i64 x.lo, .int .i64 x.wide, .int .i64 x.sent, .int .i64 x.took, .int .i64 x.since, .int .i64 x.tick, .int .i64 x.drift] 23) := hid (blk_keep B_x.out hk (fun h => h))
    replace B_t : Hd (Blk w13 (w2.heap.size) #[.int .i64 t.lo, .int .i64 t.hi] 25) := hid (blk_keep B_t.out hk (fun h => h))
    replace B_wd : Hd (Blk w13 (w8.heap.size) #[.int .i64 wd.lo, .int .i64 wd.hi] 25) := hid (blk_keep B_wd.out hk (fun h => h))
    replace B_s : Hd (Blk w13 (W9.heap.size) #[.int .i64 sent, .int .i64 (sent + took), .int .i64 (t.lo + A + k)] 32) := hid (blk_keep B_s.out hk (fun h => h))
    replace B_n : Hd (Blk w13 (w11.heap.size) #[.int .i64 n.lo, .int .i64 n.hi] 25) := hid (blk_keep B_n.out hk (fun h => h))
    replace HK : Hd (Keeps (fun _ => False) w w13) := hid (HK.out.trans hk)
    have z13 := hk.size
    clear hk
    have o_wd_0 : w13.cell? ⟨w8.heap.size, 0, none⟩ = some (.int .i64 (wd.lo)) := blk_cell B_wd.out 0
    have o_wd_1 : w13.cell? ⟨w8.heap.size, 1, none⟩ = some (.int .i64 (wd.hi)) := blk_cell B_wd.out 1
    have o_n_0 : w13.cell? ⟨w11.heap.size, 0, none⟩ = some (.int .i64 (n.lo)) := blk_cell B_n.out 0
    have o_n_1 : w13.cell? ⟨w11.heap.size, 1, none⟩ = some (.int .i64 (n.hi)) := blk_cell B_n.out 1
    go_wp2_with fail
    clear o_wd_0 o_wd_1 o_n_0 o_n_1
    refine (holds_any n now _ ⟨u3, u4⟩).mono ?_
    rintro e w14 ⟨rfl, hk⟩
    replace B_x : Hd (Blk w14 (w.heap.size) #[.int .i64 x.lo, .int .i64 x.wide, .int .i64 x.sent, .int .i64 x.took, .int .i64 x.since, .int .i64 x.tick, .int .i64 x.drift] 23) := hid (blk_keep B_x.out hk (fun h => h))
    replace B_t : Hd (Blk w14 (w2.heap.size) #[.int .i64 t.lo, .int .i64 t.hi] 25) := hid (blk_keep B_t.out hk (fun h => h))
    replace B_wd : Hd (Blk w14 (w8.heap.size) #[.int .i64 wd.lo, .int .i64 wd.hi] 25) := hid (blk_keep B_wd.out hk (fun h => h))
    replace B_s : Hd (Blk w14 (W9.heap.size) #[.int .i64 sent, .int .i64 (sent + took), .int .i64 (t.lo + A + k)] 32) := hid (blk_keep B_s.out hk (fun h => h))
    replace B_n : Hd (Blk w14 (w11.heap.size) #[.int .i64 n.lo, .int .i64 n.hi] 25) := hid (blk_keep B_n.out hk (fun h => h))
    replace HK : Hd (Keeps (fun _ => False) w w14) := hid (HK.out.trans hk)
    have z14 := hk.size
    clear hk
    have v1 : decide (wd.lo ≤ n.lo) = true := by simp; exact u5
    have v2 : decide (n.hi ≤ wd.hi) = true := by simp; exact u6
    have o_wd_0 : w14.cell? ⟨w8.heap.size, 0, none⟩ = some (.int .i64 (wd.lo)) := blk_cell B_wd.out 0
    have o_wd_1 : w14.cell? ⟨w8.heap.size, 1, none⟩ = some (.int .i64 (wd.hi)) := blk_cell B_wd.out 1
    have o_n_0 : w14.cell? ⟨w11.heap.size, 0, none⟩ = some (.int .i64 (n.lo)) := blk_cell B_n.out 0
    have o_n_1 : w14.cell? ⟨w11.heap.size, 1, none⟩ = some (.int .i64 (n.hi)) := blk_cell B_n.out 1
    go_wp2_with fail
    clear o_wd_0 o_wd_1 o_n_0 o_n_1
    refine (lives_any _).mono ?_
    rintro e w15 ⟨rfl, hk⟩
    replace B_x : Hd (Blk w15 (w.heap.size) #[.int .i64 x.lo, .int .i64 x.wide, .int .i64 x.sent, .int .i64 x.took, .int .i64 x.since, .int .i64 x.tick, .int .i64 x.drift] 23) := hid (blk_keep B_x.out hk (fun h => h))
    replace B_t : Hd (Blk w15 (w2.heap.size) #[.int .i64 t.lo, .int .i64 t.hi] 25) := hid (blk_keep B_t.out hk (fun h => h))
    replace B_wd : Hd (Blk w15 (w8.heap.size) #[.int .i64 wd.lo, .int .i64 wd.hi] 25) := hid (blk_keep B_wd.out hk (fun h => h))
    replace B_s : Hd (Blk w15 (W9.heap.size) #[.int .i64 sent, .int .i64 (sent + took), .int .i64 (t.lo + A + k)] 32) := hid (blk_keep B_s.out hk (fun h => h))
    replace B_n : Hd (Blk w15 (w11.heap.size) #[.int .i64 n.lo, .int .i64 n.hi] 25) := hid (blk_keep B_n.out hk (fun h => h))
    replace HK : Hd (Keeps (fun _ => False) w w15) := hid (HK.out.trans hk)
    have z15 := hk.size
    clear hk
    go_wp2
    go_ret
    exact ⟨rfl, HK.out⟩

end Go.Proofs.Ytjdalhnffhoknaa
