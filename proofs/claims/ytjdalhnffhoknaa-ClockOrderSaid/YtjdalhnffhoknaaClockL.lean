/- The walk of the law ClockOrder. -/
import Derived.Test.YtjdalhnffhoknaaClockK
namespace Go.Proofs.Ytjdalhnffhoknaa
open Go.RowKit

theorem cor_zero {t : Iv} {s : Sm} {now d : Int} : (cor t s now d).2 = 0 ∨ (cor t s now d).2 = 22 ∨ (cor t s now d).2 = 1 := by
  unfold cor; split
  · exact .inr (.inr rfl)
  · split
    · exact .inr (.inl rfl)
    · exact .inl rfl
theorem cor_ok {t : Iv} {s : Sm} {now d : Int} (h : ¬ s.bad now) : (cor t s now d).2 = 0 ∨ (cor t s now d).2 = 22 := by
  unfold cor; rw [if_neg h]; split
  · exact .inr rfl
  · exact .inl rfl

set_option maxRecDepth 100000 in set_option maxHeartbeats 1000000 in
theorem order_any (x y : Case) (w : World) (hx : x.ok) (hy : y.ok) :
    Calls Try.prog 11 #[.agg #[.int .i64 x.lo, .int .i64 x.wide, .int .i64 x.sent, .int .i64 x.took, .int .i64 x.since, .int .i64 x.tick, .int .i64 x.drift], .agg #[.int .i64 y.lo, .int .i64 y.wide, .int .i64 y.sent, .int .i64 y.took, .int .i64 y.since, .int .i64 y.tick, .int .i64 y.drift]] w fun e w' => e = .returned (.bool true) ∧ Keeps (fun _ => False) w w' := by
  obtain ⟨HX, HY⟩ : Hd x.ok ∧ Hd y.ok := ⟨hid hx, hid hy⟩
  have D1 : Hd (i64ok x.drift) := hid hx.2.2.2.2.2.2
  clear hx hy
  obtain ⟨⟨s0, s1, s2, s3, s4, s5⟩, s6⟩ := x.sm_ok
  obtain ⟨⟨u0, u1, u2, u3, u4, u5⟩, u6⟩ := y.sm_ok
  have b2 := around_b x.drift 1000000 (by omega)
  have d1 : 1 ≤ 1 + around x.drift 1000000 := by omega
  have d2 : 1 + around x.drift 1000000 ≤ 1000000000 := by omega
  generalize hd : 1 + around x.drift 1000000 = d at *
  have HD := hid hd
  clear hd b2
  have ns : ¬ x.sm.bad (max x.now y.now) := by unfold Sm.bad; omega
  have nu : ¬ y.sm.bad (max x.now y.now) := by unfold Sm.bad; omega
  have hn : max x.now y.now ≤ 1000000000000 := by omega
  have NS := hid ns; have NU := hid nu
  clear ns nu
  generalize hsn : x.now = nx at *
  generalize hun : y.now = ny at *
  have HNX := hid hsn; have HNY := hid hun; clear hsn hun
  generalize hs : x.sm = s at *
  have HS := hid hs; clear hs
  generalize hu : y.sm = u at *
  have HU := hid hu; clear hu
  go_enter Try.func11, Try.ntmps11
  go_wp2_with fail
  generalize hW : World.alloc (World.alloc w _) _ = W1
  have B_x : Hd (Blk W1 (w.heap.size) #[.int .i64 x.lo, .int .i64 x.wide, .int .i64 x.sent, .int .i64 x.took, .int .i64 x.since, .int .i64 x.tick, .int .i64 x.drift] 23) := hid (by rw [← hW]; exact (blk_alloc (blk_new _ _ _) _))
  have B_y : Hd (Blk W1 (w.heap.size + 1) #[.int .i64 y.lo, .int .i64 y.wide, .int .i64 y.sent, .int .i64 y.took, .int .i64 y.since, .int .i64 y.tick, .int .i64 y.drift] 23) := hid (by rw [← hW]; exact (blk_new' _ _ _ _ (by simp)))
  have HK : Hd (Keeps (fun _ => False) w W1) := hid (by rw [← hW]; exact (Keeps.alloc (Keeps.alloc (Keeps.refl _ _) _) _))
  have z1 : w.heap.size + 2 ≤ W1.heap.size := by rw [← hW]; simp
  clear hW
  refine (interval_any x _ HX.out).mono ?_
  rintro e w2 ⟨rfl, hk⟩
  replace B_x : Hd (Blk w2 (w.heap.size) #[.int .i64 x.lo, .int .i64 x.wide, .int .i64 x.sent, .int .i64 x.took, .int .i64 x.since, .int .i64 x.tick, .int .i64 x.drift] 23) := hid (blk_keep B_x.out hk (fun h => h))
  replace B_y : Hd (Blk w2 (w.heap.size + 1) #[.int .i64 y.lo, .int .i64 y.wide, .int .i64 y.sent, .int .i64 y.took, .int .i64 y.since, .int .i64 y.tick, .int .i64 y.drift] 23) := hid (blk_keep B_y.out hk (fun h => h))
  replace HK : Hd (Keeps (fun _ => False) w w2) := hid (HK.out.trans hk)
  have z2 := hk.size
  clear hk
  generalize ht : timeIv x.lo x.wide = t at *
  clear ht
  go_upto_region 2 with (fail)
  generalize hW : World.alloc w2 _ = W3
  replace B_x : Hd (Blk W3 (w.heap.size) #[.int .i64 x.lo, .int .i64 x.wide, .int .i64 x.sent, .int .i64 x.took, .int .i64 x.since, .int .i64 x.tick, .int .i64 x.drift] 23) := hid (by rw [← hW]; exact (blk_alloc B_x.out _))
  replace B_y : Hd (Blk W3 (w.heap.size + 1) #[.int .i64 y.lo, .int .i64 y.wide, .int .i64 y.sent, .int .i64 y.took, .int .i64 y.since, .int .i64 y.tick, .int .i64 y.drift] 23) := hid (by rw [← hW]; exact (blk_alloc B_y.out _))
  have B_t : Hd (Blk W3 (w2.heap.size) #[.int .i64 t.lo, .int .i64 t.hi] 25) := hid (by rw [← hW]; exact (blk_new _ _ _))
  replace HK : Hd (Keeps (fun _ => False) w W3) := hid (by rw [← hW]; exact (Keeps.alloc (HK.out) _))
  have z3 : w2.heap.size + 1 ≤ W3.heap.size := by rw [← hW]; simp
  clear hW
  have o_x_0 : W3.cell? ⟨w.heap.size, 0, none⟩ = some (.int .i64 (x.lo)) := blk_cell B_x.out 0
  have o_x_1 : W3.cell? ⟨w.heap.size, 1, none⟩ = some (.int .i64 (x.wide)) := blk_cell B_x.out 1
  have o_x_2 : W3.cell? ⟨w.heap.size, 2, none⟩ = some (.int .i64 (x.sent)) := blk_cell B_x.out 2
  have o_x_3 : W3.cell? ⟨w.heap.size, 3, none⟩ = some (.int .i64 (x.took)) := blk_cell B_x.out 3
  have o_x_4 : W3.cell? ⟨w.heap.size, 4, none⟩ = some (.int .i64 (x.since)) := blk_cell B_x.out 4
  have o_x_5 : W3.cell? ⟨w.heap.size, 5, none⟩ = some (.int .i64 (x.tick)) := blk_cell B_x.out 5
  have o_x_6 : W3.cell? ⟨w.heap.size, 6, none⟩ = some (.int .i64 (x.drift)) := blk_cell B_x.out 6
  go_wp2_with fail
  clear o_x_0 o_x_1 o_x_2 o_x_3 o_x_4 o_x_5 o_x_6
  refine (sample_any x _ HX.out).mono ?_
  rw [HS.out, HNX.out]
  rintro e w4 ⟨rfl, hk⟩
  replace B_x : Hd (Blk w4 (w.heap.size) #[.int .i64 x.lo, .int .i64 x.wide, .int .i64 x.sent, .int .i64 x.took, .int .i64 x.since, .int .i64 x.tick, .int .i64 x.drift] 23) := hid (blk_keep B_x.out hk (fun h => h))
  replace B_y : Hd (Blk w4 (w.heap.size + 1) #[.int .i64 y.lo, .int .i64 y.wide, .int .i64 y.sent, .int .i64 y.took, .int .i64 y.since, .int .i64 y.tick, .int .i64 y.drift] 23) := hid (blk_keep B_y.out hk (fun h => h))
  replace B_t : Hd (Blk w4 (w2.heap.size) #[.int .i64 t.lo, .int .i64 t.hi] 25) := hid (blk_keep B_t.out hk (fun h => h))
  replace HK : Hd (Keeps (fun _ => False) w w4) := hid (HK.out.trans hk)
  have z4 := hk.size
  clear hk
  go_upto_region 3 with (fail)
  generalize hW : World.alloc w4 _ = W5
  replace B_x : Hd (Blk W5 (w.heap.size) #[.int .i64 x.lo, .int .i64 x.wide, .int .i64 x.sent, .int .i64 x.took, .int .i64 x.since, .int .i64 x.tick, .int .i64 x.drift] 23) := hid (by rw [← hW]; exact (blk_alloc B_x.out _))
  replace B_y : Hd (Blk W5 (w.heap.size + 1) #[.int .i64 y.lo, .int .i64 y.wide, .int .i64 y.sent, .int .i64 y.took, .int .i64 y.since, .int .i64 y.tick, .int .i64 y.drift] 23) := hid (by rw [← hW]; exact (blk_alloc B_y.out _))
  replace B_t : Hd (Blk W5 (w2.heap.size) #[.int .i64 t.lo, .int .i64 t.hi] 25) := hid (by rw [← hW]; exact (blk_alloc B_t.out _))
  have B_s : Hd (Blk W5 (w4.heap.size) #[.int .i64 s.sent, .int .i64 s.recv, .int .i64 s.tick] 32) := hid (by rw [← hW]; exact (blk_new _ _ _))
  replace HK : Hd (Keeps (fun _ => False) w W5) := hid (by rw [← hW]; exact (Keeps.alloc (HK.out) _))
  have z5 : w4.heap.size + 1 ≤ W5.heap.size := by rw [← hW]; simp
  clear hW
  have o_y_0 : W5.cell? ⟨w.heap.size + 1, 0, none⟩ = some (.int .i64 (y.lo)) := blk_cell B_y.out 0
  have o_y_1 : W5.cell? ⟨w.heap.size + 1, 1, none⟩ = some (.int .i64 (y.wide)) := blk_cell B_y.out 1
  have o_y_2 : W5.cell? ⟨w.heap.size + 1, 2, none⟩ = some (.int .i64 (y.sent)) := blk_cell B_y.out 2
  have o_y_3 : W5.cell? ⟨w.heap.size + 1, 3, none⟩ = some (.int .i64 (y.took)) := blk_cell B_y.out 3
  have o_y_4 : W5.cell? ⟨w.heap.size + 1, 4, none⟩ = some (.int .i64 (y.since)) := blk_cell B_y.out 4
  have o_y_5 : W5.cell? ⟨w.heap.size + 1, 5, none⟩ = some (.int .i64 (y.tick)) := blk_cell B_y.out 5
  have o_y_6 : W5.cell? ⟨w.heap.size + 1, 6, none⟩ = some (.int .i64 (y.drift)) := blk_cell B_y.out 6
  go_wp2_with fail
  clear o_y_0 o_y_1 o_y_2 o_y_3 o_y_4 o_y_5 o_y_6
  refine (sample_any y _ HY.out).mono ?_
  rw [HU.out, HNY.out]
  rintro e w6 ⟨rfl, hk⟩
  replace B_x : Hd (Blk w6 (w.heap.size) #[.int .i64 x.lo, .int .i64 x.wide, .int .i64 x.sent, .int .i64 x.took, .int .i64 x.since, .int .i64 x.tick, .int .i64 x.drift] 23) := hid (blk_keep B_x.out hk (fun h => h))
  replace B_y : Hd (Blk w6 (w.heap.size + 1) #[.int .i64 y.lo, .int .i64 y.wide, .int .i64 y.sent, .int .i64 y.took, .int .i64 y.since, .int .i64 y.tick, .int .i64 y.drift] 23) := hid (blk_keep B_y.out hk (fun h => h))
  replace B_t : Hd (Blk w6 (w2.heap.size) #[.int .i64 t.lo, .int .i64 t.hi] 25) := hid (blk_keep B_t.out hk (fun h => h))
  replace B_s : Hd (Blk w6 (w4.heap.size) #[.int .i64 s.sent, .int .i64 s.recv, .int .i64 s.tick] 32) := hid (blk_keep B_s.out hk (fun h => h))
  replace HK : Hd (Keeps (fun _ => False) w w6) := hid (HK.out.trans hk)
  have z6 := hk.size
  clear hk
  go_upto_region 4 with (fail)
  generalize hW : World.alloc w6 _ = W7
  replace B_x : Hd (Blk W7 (w.heap.size) #[.int .i64 x.lo, .int .i64 x.wide, .int .i64 x.sent, .int .i64 x.took, .int .i64 x.since, .int .i64 x.tick, .int .i64 x.drift] 23) := hid (by rw [← hW]; exact (blk_alloc B_x.out _))
  replace B_y : Hd (Blk W7 (w.heap.size + 1) #[.int .i64 y.lo, .int .i64 y.wide, .int .i64 y.sent, .int .i64 y.took, .int .i64 y.since, .int .i64 y.tick, .int .i64 y.drift] 23) := hid (by rw [← hW]; exact (blk_alloc B_y.out _))
  replace B_t : Hd (Blk W7 (w2.heap.size) #[.int .i64 t.lo, .int .i64 t.hi] 25) := hid (by rw [← hW]; exact (blk_alloc B_t.out _))
  replace B_s : Hd (Blk W7 (w4.heap.size) #[.int .i64 s.sent, .int .i64 s.recv, .int .i64 s.tick] 32) := hid (by rw [← hW]; exact (blk_alloc B_s.out _))
  have B_u : Hd (Blk W7 (w6.heap.size) #[.int .i64 u.sent, .int .i64 u.recv, .int .i64 u.tick] 32) := hid (by rw [← hW]; exact (blk_new _ _ _))
  replace HK : Hd (Keeps (fun _ => False) w W7) := hid (by rw [← hW]; exact (Keeps.alloc (HK.out) _))
  have z7 : w6.heap.size + 1 ≤ W7.heap.size := by rw [← hW]; simp
  clear hW
  rcases Int.lt_or_le nx ny with hm | hm
  · have hmx : max nx ny = ny := by omega
    rw [hmx] at NS NU hn
    clear hmx
    have o_x_6 : W7.cell? ⟨w.heap.size, 6, none⟩ = some (.int .i64 (x.drift)) := blk_cell B_x.out 6
    go_wp2_with fail
    refine (drift_any _ _ D1.out.1 D1.out.2).mono ?_
    rw [HD.out]
    rintro e wx ⟨rfl, rfl⟩
    clear o_x_6
    have o_t_0 : W7.cell? ⟨w2.heap.size, 0, none⟩ = some (.int .i64 (t.lo)) := blk_cell B_t.out 0
    have o_t_1 : W7.cell? ⟨w2.heap.size, 1, none⟩ = some (.int .i64 (t.hi)) := blk_cell B_t.out 1
    have o_s_0 : W7.cell? ⟨w4.heap.size, 0, none⟩ = some (.int .i64 (s.sent)) := blk_cell B_s.out 0
    have o_s_1 : W7.cell? ⟨w4.heap.size, 1, none⟩ = some (.int .i64 (s.recv)) := blk_cell B_s.out 1
    have o_s_2 : W7.cell? ⟨w4.heap.size, 2, none⟩ = some (.int .i64 (s.tick)) := blk_cell B_s.out 2
    go_wp2_with fail
    clear o_t_0 o_t_1 o_s_0 o_s_1 o_s_2
    refine (Correlate_ok t s ny d _ NS.out (by omega) d1 d2).mono ?_
    rintro e w8 ⟨rfl, hk⟩
    replace B_x : Hd (Blk w8 (w.heap.size) #[.int .i64 x.lo, .int .i64 x.wide, .int .i64 x.sent, .int .i64 x.took, .int .i64 x.since, .int .i64 x.tick, .int .i64 x.drift] 23) := hid (blk_keep B_x.out hk (fun h => h))
    replace B_y : Hd (Blk w8 (w.heap.size + 1) #[.int .i64 y.lo, .int .i64 y.wide, .int .i64 y.sent, .int .i64 y.took, .int .i64 y.since, .int .i64 y.tick, .int .i64 y.drift] 23) := hid (blk_keep B_y.out hk (fun h => h))
    replace B_t : Hd (Blk w8 (w2.heap.size) #[.int .i64 t.lo, .int .i64 t.hi] 25) := hid (blk_keep B_t.out hk (fun h => h))
    replace B_s : Hd (Blk w8 (w4.heap.size) #[.int .i64 s.sent, .int .i64 s.recv, .int .i64 s.tick] 32) := hid (blk_keep B_s.out hk (fun h => h))
    replace B_u : Hd (Blk w8 (w6.heap.size) #[.int .i64 u.sent, .int .i64 u.recv, .int .i64 u.tick] 32) := hid (blk_keep B_u.out hk (fun h => h))
    replace HK : Hd (Keeps (fun _ => False) w w8) := hid (HK.out.trans hk)
    have z8 := hk.size
    clear hk
    have HC := hid (cor2_comm t s u ny d NS.out NU.out)
    rcases cor_ok (t := t) (d := d) NS.out with e1 | e1 <;> rcases cor_ok (t := t) (d := d) NU.out with e2 | e2
    · have E1 := hid e1; have E2 := hid e2; clear e1 e2
      rw [E1.out]
      generalize hA : (cor t s ny d).1 = A at *
      have HA := hid hA; clear hA
      have o_u_0 : w8.cell? ⟨w6.heap.size, 0, none⟩ = some (.int .i64 (u.sent)) := blk_cell B_u.out 0
      have o_u_1 : w8.cell? ⟨w6.heap.size, 1, none⟩ = some (.int .i64 (u.recv)) := blk_cell B_u.out 1
      have o_u_2 : w8.cell? ⟨w6.heap.size, 2, none⟩ = some (.int .i64 (u.tick)) := blk_cell B_u.out 2
      go_upto_region 8 with (fail)
      clear o_u_0 o_u_1 o_u_2
      generalize hW : World.alloc w8 _ = W9
      replace B_x : Hd (Blk W9 (w.heap.size) #[.int .i64 x.lo, .int .i64 x.wide, .int .i64 x.sent, .int .i64 x.took, .int .i64 x.since, .int .i64 x.tick, .int .i64 x.drift] 23) := hid (by rw [← hW]; exact (blk_alloc B_x.out _))
      replace B_y : Hd (Blk W9 (w.heap.size + 1) #[.int .i64 y.lo, .int .i64 y.wide, .int .i64 y.sent, .int .i64 y.took, .int .i64 y.since, .int .i64 y.tick, .int .i64 y.drift] 23) := hid (by rw [← hW]; exact (blk_alloc B_y.out _))
      replace B_t : Hd (Blk W9 (w2.heap.size) #[.int .i64 t.lo, .int .i64 t.hi] 25) := hid (by rw [← hW]; exact (blk_alloc B_t.out _))
      replace B_s : Hd (Blk W9 (w4.heap.size) #[.int .i64 s.sent, .int .i64 s.recv, .int .i64 s.tick] 32) := hid (by rw [← hW]; exact (blk_alloc B_s.out _))
      replace B_u : Hd (Blk W9 (w6.heap.size) #[.int .i64 u.sent, .int .i64 u.recv, .int .i64 u.tick] 32) := hid (by rw [← hW]; exact (blk_alloc B_u.out _))
      have B_a : Hd (Blk W9 (w8.heap.size) #[.int .i64 A.lo, .int .i64 A.hi] 25) := hid (by rw [← hW]; exact (blk_new _ _ _))
      replace HK : Hd (Keeps (fun _ => False) w W9) := hid (by rw [← hW]; exact (Keeps.alloc (HK.out) _))
      have z9 : w8.heap.size + 1 ≤ W9.heap.size := by rw [← hW]; simp
      clear hW
      have o_a_0 : W9.cell? ⟨w8.heap.size, 0, none⟩ = some (.int .i64 (A.lo)) := blk_cell B_a.out 0
      have o_a_1 : W9.cell? ⟨w8.heap.size, 1, none⟩ = some (.int .i64 (A.hi)) := blk_cell B_a.out 1
      have o_u_0 : W9.cell? ⟨w6.heap.size, 0, none⟩ = some (.int .i64 (u.sent)) := blk_cell B_u.out 0
      have o_u_1 : W9.cell? ⟨w6.heap.size, 1, none⟩ = some (.int .i64 (u.recv)) := blk_cell B_u.out 1
      have o_u_2 : W9.cell? ⟨w6.heap.size, 2, none⟩ = some (.int .i64 (u.tick)) := blk_cell B_u.out 2
      go_wp2_with fail
      clear o_a_0 o_a_1 o_u_0 o_u_1 o_u_2
      refine (Correlate_ok A u ny d _ NU.out (by omega) d1 d2).mono ?_
      rintro e w10 ⟨rfl, hk⟩
      replace B_x : Hd (Blk w10 (w.heap.size) #[.int .i64 x.lo, .int .i64 x.wide, .int .i64 x.sent, .int .i64 x.took, .int .i64 x.since, .int .i64 x.tick, .int .i64 x.drift] 23) := hid (blk_keep B_x.out hk (fun h => h))
      replace B_y : Hd (Blk w10 (w.heap.size + 1) #[.int .i64 y.lo, .int .i64 y.wide, .int .i64 y.sent, .int .i64 y.took, .int .i64 y.since, .int .i64 y.tick, .int .i64 y.drift] 23) := hid (blk_keep B_y.out hk (fun h => h))
      replace B_t : Hd (Blk w10 (w2.heap.size) #[.int .i64 t.lo, .int .i64 t.hi] 25) := hid (blk_keep B_t.out hk (fun h => h))
      replace B_s : Hd (Blk w10 (w4.heap.size) #[.int .i64 s.sent, .int .i64 s.recv, .int .i64 s.tick] 32) := hid (blk_keep B_s.out hk (fun h => h))
      replace B_u : Hd (Blk w10 (w6.heap.size) #[.int .i64 u.sent, .int .i64 u.recv, .int .i64 u.tick] 32) := hid (blk_keep B_u.out hk (fun h => h))
      replace B_a : Hd (Blk w10 (w8.heap.size) #[.int .i64 A.lo, .int .i64 A.hi] 25) := hid (blk_keep B_a.out hk (fun h => h))
      replace HK : Hd (Keeps (fun _ => False) w w10) := hid (HK.out.trans hk)
      have z10 := hk.size
      clear hk
      generalize hR : cor A u ny d = R at *
      have HR := hid hR; clear hR
      have o_a_0 : w10.cell? ⟨w8.heap.size, 0, none⟩ = some (.int .i64 (A.lo)) := blk_cell B_a.out 0
      have o_a_1 : w10.cell? ⟨w8.heap.size, 1, none⟩ = some (.int .i64 (A.hi)) := blk_cell B_a.out 1
      have o_t_0 : w10.cell? ⟨w2.heap.size, 0, none⟩ = some (.int .i64 (t.lo)) := blk_cell B_t.out 0
      have o_t_1 : w10.cell? ⟨w2.heap.size, 1, none⟩ = some (.int .i64 (t.hi)) := blk_cell B_t.out 1
      have o_u_0 : w10.cell? ⟨w6.heap.size, 0, none⟩ = some (.int .i64 (u.sent)) := blk_cell B_u.out 0
      have o_u_1 : w10.cell? ⟨w6.heap.size, 1, none⟩ = some (.int .i64 (u.recv)) := blk_cell B_u.out 1
      have o_u_2 : w10.cell? ⟨w6.heap.size, 2, none⟩ = some (.int .i64 (u.tick)) := blk_cell B_u.out 2
      have f_a_0 : w10.frozen? ⟨w8.heap.size, 0, none⟩ = false := blk_free B_a.out 0
      have f_a_1 : w10.frozen? ⟨w8.heap.size, 1, none⟩ = false := blk_free B_a.out 1
      go_upto_region 9 with (fail)
      obtain ⟨KF, F2⟩ := fin2 HK.out (b := w8.heap.size) (by omega) B_a.out (.int .i64 R.1.lo) (.int .i64 R.1.hi)
      clear o_a_0 o_a_1 o_t_0 o_t_1 o_u_0 o_u_1 o_u_2 f_a_0 f_a_1
      generalize hW : World.setCell (World.setCell w10 _ _) _ _ = W11 at *
      replace B_x : Hd (Blk W11 (w.heap.size) #[.int .i64 x.lo, .int .i64 x.wide, .int .i64 x.sent, .int .i64 x.took, .int .i64 x.since, .int .i64 x.tick, .int .i64 x.drift] 23) := hid (by rw [← hW]; exact blk_other (blk_other B_x.out (by omega) _ _) (by omega) _ _)
      replace B_y : Hd (Blk W11 (w.heap.size + 1) #[.int .i64 y.lo, .int .i64 y.wide, .int .i64 y.sent, .int .i64 y.took, .int .i64 y.since, .int .i64 y.tick, .int .i64 y.drift] 23) := hid (by rw [← hW]; exact blk_other (blk_other B_y.out (by omega) _ _) (by omega) _ _)
      replace B_t : Hd (Blk W11 (w2.heap.size) #[.int .i64 t.lo, .int .i64 t.hi] 25) := hid (by rw [← hW]; exact blk_other (blk_other B_t.out (by omega) _ _) (by omega) _ _)
      replace B_s : Hd (Blk W11 (w4.heap.size) #[.int .i64 s.sent, .int .i64 s.recv, .int .i64 s.tick] 32) := hid (by rw [← hW]; exact blk_other (blk_other B_s.out (by omega) _ _) (by omega) _ _)
      replace B_u : Hd (Blk W11 (w6.heap.size) #[.int .i64 u.sent, .int .i64 u.recv, .int .i64 u.tick] 32) := hid (by rw [← hW]; exact blk_other (blk_other B_u.out (by omega) _ _) (by omega) _ _)
      replace B_a : Hd (Blk W11 (w8.heap.size) #[.int .i64 R.1.lo, .int .i64 R.1.hi] 25) := hid F2
      replace HK := hid KF
      have zz11 : w10.heap.size ≤ W11.heap.size := by rw [← hW]; simp [World.setCell]
      clear hW F2 KF
      have o_t_0 : W11.cell? ⟨w2.heap.size, 0, none⟩ = some (.int .i64 (t.lo)) := blk_cell B_t.out 0
      have o_t_1 : W11.cell? ⟨w2.heap.size, 1, none⟩ = some (.int .i64 (t.hi)) := blk_cell B_t.out 1
      have o_u_0 : W11.cell? ⟨w6.heap.size, 0, none⟩ = some (.int .i64 (u.sent)) := blk_cell B_u.out 0
      have o_u_1 : W11.cell? ⟨w6.heap.size, 1, none⟩ = some (.int .i64 (u.recv)) := blk_cell B_u.out 1
      have o_u_2 : W11.cell? ⟨w6.heap.size, 2, none⟩ = some (.int .i64 (u.tick)) := blk_cell B_u.out 2
      go_wp2_with fail
      clear o_t_0 o_t_1 o_u_0 o_u_1 o_u_2
      refine (Correlate_ok t u ny d _ NU.out (by omega) d1 d2).mono ?_
      rintro e w12 ⟨rfl, hk⟩
      replace B_x : Hd (Blk w12 (w.heap.size) #[.int .i64 x.lo, .int .i64 x.wide, .int .i64 x.sent, .int .i64 x.took, .int .i64 x.since, .int .i64 x.tick, .int .i64 x.drift] 23) := hid (blk_keep B_x.out hk (fun h => h))
      replace B_y : Hd (Blk w12 (w.heap.size + 1) #[.int .i64 y.lo, .int .i64 y.wide, .int .i64 y.sent, .int .i64 y.took, .int .i64 y.since, .int .i64 y.tick, .int .i64 y.drift] 23) := hid (blk_keep B_y.out hk (fun h => h))
      replace B_t : Hd (Blk w12 (w2.heap.size) #[.int .i64 t.lo, .int .i64 t.hi] 25) := hid (blk_keep B_t.out hk (fun h => h))
      replace B_s : Hd (Blk w12 (w4.heap.size) #[.int .i64 s.sent, .int .i64 s.recv, .int .i64 s.tick] 32) := hid (blk_keep B_s.out hk (fun h => h))
      replace B_u : Hd (Blk w12 (w6.heap.size) #[.int .i64 u.sent, .int .i64 u.recv, .int .i64 u.tick] 32) := hid (blk_keep B_u.out hk (fun h => h))
      replace B_a : Hd (Blk w12 (w8.heap.size) #[.int .i64 R.1.lo, .int .i64 R.1.hi] 25) := hid (blk_keep B_a.out hk (fun h => h))
      replace HK : Hd (Keeps (fun _ => False) w w12) := hid (HK.out.trans hk)
      have z12 := hk.size
      clear hk
      rw [E2.out]
      generalize hB : (cor t u ny d).1 = B at *
      have HB := hid hB; clear hB
      have o_s_0 : w12.cell? ⟨w4.heap.size, 0, none⟩ = some (.int .i64 (s.sent)) := blk_cell B_s.out 0
      have o_s_1 : w12.cell? ⟨w4.heap.size, 1, none⟩ = some (.int .i64 (s.recv)) := blk_cell B_s.out 1
      have o_s_2 : w12.cell? ⟨w4.heap.size, 2, none⟩ = some (.int .i64 (s.tick)) := blk_cell B_s.out 2
      go_upto_region 11 with (fail)
      clear o_s_0 o_s_1 o_s_2
      generalize hW : World.alloc w12 _ = W13
      replace B_x : Hd (Blk W13 (w.heap.size) #[.int .i64 x.lo, .int .i64 x.wide, .int .i64 x.sent, .int .i64 x.took, .int .i64 x.since, .int .i64 x.tick, .int .i64 x.drift] 23) := hid (by rw [← hW]; exact (blk_alloc B_x.out _))
      replace B_y : Hd (Blk W13 (w.heap.size + 1) #[.int .i64 y.lo, .int .i64 y.wide, .int .i64 y.sent, .int .i64 y.took, .int .i64 y.since, .int .i64 y.tick, .int .i64 y.drift] 23) := hid (by rw [← hW]; exact (blk_alloc B_y.out _))
      replace B_t : Hd (Blk W13 (w2.heap.size) #[.int .i64 t.lo, .int .i64 t.hi] 25) := hid (by rw [← hW]; exact (blk_alloc B_t.out _))
      replace B_s : Hd (Blk W13 (w4.heap.size) #[.int .i64 s.sent, .int .i64 s.recv, .int .i64 s.tick] 32) := hid (by rw [← hW]; exact (blk_alloc B_s.out _))
      replace B_u : Hd (Blk W13 (w6.heap.size) #[.int .i64 u.sent, .int .i64 u.recv, .int .i64 u.tick] 32) := hid (by rw [← hW]; exact (blk_alloc B_u.out _))
      replace B_a : Hd (Blk W13 (w8.heap.size) #[.int .i64 R.1.lo, .int .i64 R.1.hi] 25) := hid (by rw [← hW]; exact (blk_alloc B_a.out _))
      have B_b : Hd (Blk W13 (w12.heap.size) #[.int .i64 B.lo, .int .i64 B.hi] 25) := hid (by rw [← hW]; exact (blk_new _ _ _))
      replace HK : Hd (Keeps (fun _ => False) w W13) := hid (by rw [← hW]; exact (Keeps.alloc (HK.out) _))
      have z13 : w12.heap.size + 1 ≤ W13.heap.size := by rw [← hW]; simp
      clear hW
      have o_b_0 : W13.cell? ⟨w12.heap.size, 0, none⟩ = some (.int .i64 (B.lo)) := blk_cell B_b.out 0
      have o_b_1 : W13.cell? ⟨w12.heap.size, 1, none⟩ = some (.int .i64 (B.hi)) := blk_cell B_b.out 1
      have o_s_0 : W13.cell? ⟨w4.heap.size, 0, none⟩ = some (.int .i64 (s.sent)) := blk_cell B_s.out 0
      have o_s_1 : W13.cell? ⟨w4.heap.size, 1, none⟩ = some (.int .i64 (s.recv)) := blk_cell B_s.out 1
      have o_s_2 : W13.cell? ⟨w4.heap.size, 2, none⟩ = some (.int .i64 (s.tick)) := blk_cell B_s.out 2
      go_wp2_with fail
      clear o_b_0 o_b_1 o_s_0 o_s_1 o_s_2
      refine (Correlate_ok B s ny d _ NS.out (by omega) d1 d2).mono ?_
      rintro e w14 ⟨rfl, hk⟩
      replace B_x : Hd (Blk w14 (w.heap.size) #[.int .i64 x.lo, .int .i64 x.wide, .int .i64 x.sent, .int .i64 x.took, .int .i64 x.since, .int .i64 x.tick, .int .i64 x.drift] 23) := hid (blk_keep B_x.out hk (fun h => h))
      replace B_y : Hd (Blk w14 (w.heap.size + 1) #[.int .i64 y.lo, .int .i64 y.wide, .int .i64 y.sent, .int .i64 y.took, .int .i64 y.since, .int .i64 y.tick, .int .i64 y.drift] 23) := hid (blk_keep B_y.out hk (fun h => h))
      replace B_t : Hd (Blk w14 (w2.heap.size) #[.int .i64 t.lo, .int .i64 t.hi] 25) := hid (blk_keep B_t.out hk (fun h => h))
      replace B_s : Hd (Blk w14 (w4.heap.size) #[.int .i64 s.sent, .int .i64 s.recv, .int .i64 s.tick] 32) := hid (blk_keep B_s.out hk (fun h => h))
      replace B_u : Hd (Blk w14 (w6.heap.size) #[.int .i64 u.sent, .int .i64 u.recv, .int .i64 u.tick] 32) := hid (blk_keep B_u.out hk (fun h => h))
      replace B_a : Hd (Blk w14 (w8.heap.size) #[.int .i64 R.1.lo, .int .i64 R.1.hi] 25) := hid (blk_keep B_a.out hk (fun h => h))
      replace B_b : Hd (Blk w14 (w12.heap.size) #[.int .i64 B.lo, .int .i64 B.hi] 25) := hid (blk_keep B_b.out hk (fun h => h))
      replace HK : Hd (Keeps (fun _ => False) w w14) := hid (HK.out.trans hk)
      have z14 := hk.size
      clear hk
      have HF : Hd (cor B s ny d = R) := hid (by have h := HC.out; unfold cor2 at h; rw [HA.out, HB.out] at h; rw [if_pos E1.out] at h; rw [HR.out] at h; rw [if_pos E2.out] at h; rw [← h])
      rw [HF.out]
      have o_a_0 : w14.cell? ⟨w8.heap.size, 0, none⟩ = some (.int .i64 (R.1.lo)) := blk_cell B_a.out 0
      have o_a_1 : w14.cell? ⟨w8.heap.size, 1, none⟩ = some (.int .i64 (R.1.hi)) := blk_cell B_a.out 1
      have o_b_0 : w14.cell? ⟨w12.heap.size, 0, none⟩ = some (.int .i64 (B.lo)) := blk_cell B_b.out 0
      have o_b_1 : w14.cell? ⟨w12.heap.size, 1, none⟩ = some (.int .i64 (B.hi)) := blk_cell B_b.out 1
      have f_b_0 : w14.frozen? ⟨w12.heap.size, 0, none⟩ = false := blk_free B_b.out 0
      have f_b_1 : w14.frozen? ⟨w12.heap.size, 1, none⟩ = false := blk_free B_b.out 1
      go_upto_region 12 with (fail)
      obtain ⟨KF, F2⟩ := fin2 HK.out (b := w12.heap.size) (by omega) B_b.out (.int .i64 R.1.lo) (.int .i64 R.1.hi)
      clear o_a_0 o_a_1 o_b_0 o_b_1 f_b_0 f_b_1
      generalize hW : World.setCell (World.setCell w14 _ _) _ _ = W15 at *
      replace B_a : Hd (Blk W15 (w8.heap.size) #[.int .i64 R.1.lo, .int .i64 R.1.hi] 25) := hid (by rw [← hW]; exact blk_other (blk_other B_a.out (by omega) _ _) (by omega) _ _)
      replace B_b : Hd (Blk W15 (w12.heap.size) #[.int .i64 R.1.lo, .int .i64 R.1.hi] 25) := hid F2
      replace HK := hid KF
      clear hW F2 KF
      have o_a_0 : W15.cell? ⟨w8.heap.size, 0, none⟩ = some (.int .i64 (R.1.lo)) := blk_cell B_a.out 0
      have o_a_1 : W15.cell? ⟨w8.heap.size, 1, none⟩ = some (.int .i64 (R.1.hi)) := blk_cell B_a.out 1
      have o_b_0 : W15.cell? ⟨w12.heap.size, 0, none⟩ = some (.int .i64 (R.1.lo)) := blk_cell B_b.out 0
      have o_b_1 : W15.cell? ⟨w12.heap.size, 1, none⟩ = some (.int .i64 (R.1.hi)) := blk_cell B_b.out 1
      go_wp2_with fail
      clear o_a_0 o_a_1 o_b_0 o_b_1
      refine (lives_any _).mono ?_
      rintro e w16 ⟨rfl, hk⟩
      replace B_a : Hd (Blk w16 (w8.heap.size) #[.int .i64 R.1.lo, .int .i64 R.1.hi] 25) := hid (blk_keep B_a.out hk (fun h => h))
      replace B_b : Hd (Blk w16 (w12.heap.size) #[.int .i64 R.1.lo, .int .i64 R.1.hi] 25) := hid (blk_keep B_b.out hk (fun h => h))
      replace HK : Hd (Keeps (fun _ => False) w w16) := hid (HK.out.trans hk)
      have z16 := hk.size
      clear hk
      go_wp2
      go_ret
      exact ⟨rfl, HK.out⟩
    · have E1 := hid e1; have E2 := hid e2; clear e1 e2
      rw [E1.out]
      generalize hA : (cor t s ny d).1 = A at *
      have HA := hid hA; clear hA
      have o_u_0 : w8.cell? ⟨w6.heap.size, 0, none⟩ = some (.int .i64 (u.sent)) := blk_cell B_u.out 0
      have o_u_1 : w8.cell? ⟨w6.heap.size, 1, none⟩ = some (.int .i64 (u.recv)) := blk_cell B_u.out 1
      have o_u_2 : w8.cell? ⟨w6.heap.size, 2, none⟩ = some (.int .i64 (u.tick)) := blk_cell B_u.out 2
      go_upto_region 8 with (fail)
      clear o_u_0 o_u_1 o_u_2
      generalize hW : World.alloc w8 _ = W9
      replace B_x : Hd (Blk W9 (w.heap.size) #[.int .i64 x.lo, .int .i64 x.wide, .int .i64 x.sent, .int .i64 x.took, .int .i64 x.since, .int .i64 x.tick, .int .i64 x.drift] 23) := hid (by rw [← hW]; exact (blk_alloc B_x.out _))
      replace B_y : Hd (Blk W9 (w.heap.size + 1) #[.int .i64 y.lo, .int .i64 y.wide, .int .i64 y.sent, .int .i64 y.took, .int .i64 y.since, .int .i64 y.tick, .int .i64 y.drift] 23) := hid (by rw [← hW]; exact (blk_alloc B_y.out _))
      replace B_t : Hd (Blk W9 (w2.heap.size) #[.int .i64 t.lo, .int .i64 t.hi] 25) := hid (by rw [← hW]; exact (blk_alloc B_t.out _))
      replace B_s : Hd (Blk W9 (w4.heap.size) #[.int .i64 s.sent, .int .i64 s.recv, .int .i64 s.tick] 32) := hid (by rw [← hW]; exact (blk_alloc B_s.out _))
      replace B_u : Hd (Blk W9 (w6.heap.size) #[.int .i64 u.sent, .int .i64 u.recv, .int .i64 u.tick] 32) := hid (by rw [← hW]; exact (blk_alloc B_u.out _))
      have B_a : Hd (Blk W9 (w8.heap.size) #[.int .i64 A.lo, .int .i64 A.hi] 25) := hid (by rw [← hW]; exact (blk_new _ _ _))
      replace HK : Hd (Keeps (fun _ => False) w W9) := hid (by rw [← hW]; exact (Keeps.alloc (HK.out) _))
      have z9 : w8.heap.size + 1 ≤ W9.heap.size := by rw [← hW]; simp
      clear hW
      have o_a_0 : W9.cell? ⟨w8.heap.size, 0, none⟩ = some (.int .i64 (A.lo)) := blk_cell B_a.out 0
      have o_a_1 : W9.cell? ⟨w8.heap.size, 1, none⟩ = some (.int .i64 (A.hi)) := blk_cell B_a.out 1
      have o_u_0 : W9.cell? ⟨w6.heap.size, 0, none⟩ = some (.int .i64 (u.sent)) := blk_cell B_u.out 0
      have o_u_1 : W9.cell? ⟨w6.heap.size, 1, none⟩ = some (.int .i64 (u.recv)) := blk_cell B_u.out 1
      have o_u_2 : W9.cell? ⟨w6.heap.size, 2, none⟩ = some (.int .i64 (u.tick)) := blk_cell B_u.out 2
      go_wp2_with fail
      clear o_a_0 o_a_1 o_u_0 o_u_1 o_u_2
      refine (Correlate_ok A u ny d _ NU.out (by omega) d1 d2).mono ?_
      rintro e w10 ⟨rfl, hk⟩
      replace B_x : Hd (Blk w10 (w.heap.size) #[.int .i64 x.lo, .int .i64 x.wide, .int .i64 x.sent, .int .i64 x.took, .int .i64 x.since, .int .i64 x.tick, .int .i64 x.drift] 23) := hid (blk_keep B_x.out hk (fun h => h))
      replace B_y : Hd (Blk w10 (w.heap.size + 1) #[.int .i64 y.lo, .int .i64 y.wide, .int .i64 y.sent, .int .i64 y.took, .int .i64 y.since, .int .i64 y.tick, .int .i64 y.drift] 23) := hid (blk_keep B_y.out hk (fun h => h))
      replace B_t : Hd (Blk w10 (w2.heap.size) #[.int .i64 t.lo, .int .i64 t.hi] 25) := hid (blk_keep B_t.out hk (fun h => h))
      replace B_s : Hd (Blk w10 (w4.heap.size) #[.int .i64 s.sent, .int .i64 s.recv, .int .i64 s.tick] 32) := hid (blk_keep B_s.out hk (fun h => h))
      replace B_u : Hd (Blk w10 (w6.heap.size) #[.int .i64 u.sent, .int .i64 u.recv, .int .i64 u.tick] 32) := hid (blk_keep B_u.out hk (fun h => h))
      replace B_a : Hd (Blk w10 (w8.heap.size) #[.int .i64 A.lo, .int .i64 A.hi] 25) := hid (blk_keep B_a.out hk (fun h => h))
      replace HK : Hd (Keeps (fun _ => False) w w10) := hid (HK.out.trans hk)
      have z10 := hk.size
      clear hk
      generalize hR : cor A u ny d = R at *
      have HR := hid hR; clear hR
      have o_a_0 : w10.cell? ⟨w8.heap.size, 0, none⟩ = some (.int .i64 (A.lo)) := blk_cell B_a.out 0
      have o_a_1 : w10.cell? ⟨w8.heap.size, 1, none⟩ = some (.int .i64 (A.hi)) := blk_cell B_a.out 1
      have o_t_0 : w10.cell? ⟨w2.heap.size, 0, none⟩ = some (.int .i64 (t.lo)) := blk_cell B_t.out 0
      have o_t_1 : w10.cell? ⟨w2.heap.size, 1, none⟩ = some (.int .i64 (t.hi)) := blk_cell B_t.out 1
      have o_u_0 : w10.cell? ⟨w6.heap.size, 0, none⟩ = some (.int .i64 (u.sent)) := blk_cell B_u.out 0
      have o_u_1 : w10.cell? ⟨w6.heap.size, 1, none⟩ = some (.int .i64 (u.recv)) := blk_cell B_u.out 1
      have o_u_2 : w10.cell? ⟨w6.heap.size, 2, none⟩ = some (.int .i64 (u.tick)) := blk_cell B_u.out 2
      have f_a_0 : w10.frozen? ⟨w8.heap.size, 0, none⟩ = false := blk_free B_a.out 0
      have f_a_1 : w10.frozen? ⟨w8.heap.size, 1, none⟩ = false := blk_free B_a.out 1
      go_upto_region 9 with (fail)
      obtain ⟨KF, F2⟩ := fin2 HK.out (b := w8.heap.size) (by omega) B_a.out (.int .i64 R.1.lo) (.int .i64 R.1.hi)
      clear o_a_0 o_a_1 o_t_0 o_t_1 o_u_0 o_u_1 o_u_2 f_a_0 f_a_1
      generalize hW : World.setCell (World.setCell w10 _ _) _ _ = W11 at *
      replace B_x : Hd (Blk W11 (w.heap.size) #[.int .i64 x.lo, .int .i64 x.wide, .int .i64 x.sent, .int .i64 x.took, .int .i64 x.since, .int .i64 x.tick, .int .i64 x.drift] 23) := hid (by rw [← hW]; exact blk_other (blk_other B_x.out (by omega) _ _) (by omega) _ _)
      replace B_y : Hd (Blk W11 (w.heap.size + 1) #[.int .i64 y.lo, .int .i64 y.wide, .int .i64 y.sent, .int .i64 y.took, .int .i64 y.since, .int .i64 y.tick, .int .i64 y.drift] 23) := hid (by rw [← hW]; exact blk_other (blk_other B_y.out (by omega) _ _) (by omega) _ _)
      replace B_t : Hd (Blk W11 (w2.heap.size) #[.int .i64 t.lo, .int .i64 t.hi] 25) := hid (by rw [← hW]; exact blk_other (blk_other B_t.out (by omega) _ _) (by omega) _ _)
      replace B_s : Hd (Blk W11 (w4.heap.size) #[.int .i64 s.sent, .int .i64 s.recv, .int .i64 s.tick] 32) := hid (by rw [← hW]; exact blk_other (blk_other B_s.out (by omega) _ _) (by omega) _ _)
      replace B_u : Hd (Blk W11 (w6.heap.size) #[.int .i64 u.sent, .int .i64 u.recv, .int .i64 u.tick] 32) := hid (by rw [← hW]; exact blk_other (blk_other B_u.out (by omega) _ _) (by omega) _ _)
      replace B_a : Hd (Blk W11 (w8.heap.size) #[.int .i64 R.1.lo, .int .i64 R.1.hi] 25) := hid F2
      replace HK := hid KF
      have zz11 : w10.heap.size ≤ W11.heap.size := by rw [← hW]; simp [World.setCell]
      clear hW F2 KF
      have o_t_0 : W11.cell? ⟨w2.heap.size, 0, none⟩ = some (.int .i64 (t.lo)) := blk_cell B_t.out 0
      have o_t_1 : W11.cell? ⟨w2.heap.size, 1, none⟩ = some (.int .i64 (t.hi)) := blk_cell B_t.out 1
      have o_u_0 : W11.cell? ⟨w6.heap.size, 0, none⟩ = some (.int .i64 (u.sent)) := blk_cell B_u.out 0
      have o_u_1 : W11.cell? ⟨w6.heap.size, 1, none⟩ = some (.int .i64 (u.recv)) := blk_cell B_u.out 1
      have o_u_2 : W11.cell? ⟨w6.heap.size, 2, none⟩ = some (.int .i64 (u.tick)) := blk_cell B_u.out 2
      go_wp2_with fail
      clear o_t_0 o_t_1 o_u_0 o_u_1 o_u_2
      refine (Correlate_ok t u ny d _ NU.out (by omega) d1 d2).mono ?_
      rintro e w12 ⟨rfl, hk⟩
      replace B_x : Hd (Blk w12 (w.heap.size) #[.int .i64 x.lo, .int .i64 x.wide, .int .i64 x.sent, .int .i64 x.took, .int .i64 x.since, .int .i64 x.tick, .int .i64 x.drift] 23) := hid (blk_keep B_x.out hk (fun h => h))
      replace B_y : Hd (Blk w12 (w.heap.size + 1) #[.int .i64 y.lo, .int .i64 y.wide, .int .i64 y.sent, .int .i64 y.took, .int .i64 y.since, .int .i64 y.tick, .int .i64 y.drift] 23) := hid (blk_keep B_y.out hk (fun h => h))
      replace B_t : Hd (Blk w12 (w2.heap.size) #[.int .i64 t.lo, .int .i64 t.hi] 25) := hid (blk_keep B_t.out hk (fun h => h))
      replace B_s : Hd (Blk w12 (w4.heap.size) #[.int .i64 s.sent, .int .i64 s.recv, .int .i64 s.tick] 32) := hid (blk_keep B_s.out hk (fun h => h))
      replace B_u : Hd (Blk w12 (w6.heap.size) #[.int .i64 u.sent, .int .i64 u.recv, .int .i64 u.tick] 32) := hid (blk_keep B_u.out hk (fun h => h))
      replace B_a : Hd (Blk w12 (w8.heap.size) #[.int .i64 R.1.lo, .int .i64 R.1.hi] 25) := hid (blk_keep B_a.out hk (fun h => h))
      replace HK : Hd (Keeps (fun _ => False) w w12) := hid (HK.out.trans hk)
      have z12 := hk.size
      clear hk
      rw [E2.out]
      generalize hB : (cor t u ny d).1 = B at *
      have HB := hid hB; clear hB
      have HF : Hd (R = (B, 22)) := hid (by have h := HC.out; unfold cor2 at h; rw [HA.out, HB.out] at h; rw [if_pos E1.out, if_neg (by rw [E2.out]; decide)] at h; rw [HR.out] at h; rw [h, ← HB.out, ← E2.out])
      rw [HF.out] at B_a ⊢
      go_upto_region 12 with (fail)
      generalize hW : World.alloc w12 _ = W13
      replace B_x : Hd (Blk W13 (w.heap.size) #[.int .i64 x.lo, .int .i64 x.wide, .int .i64 x.sent, .int .i64 x.took, .int .i64 x.since, .int .i64 x.tick, .int .i64 x.drift] 23) := hid (by rw [← hW]; exact (blk_alloc B_x.out _))
      replace B_y : Hd (Blk W13 (w.heap.size + 1) #[.int .i64 y.lo, .int .i64 y.wide, .int .i64 y.sent, .int .i64 y.took, .int .i64 y.since, .int .i64 y.tick, .int .i64 y.drift] 23) := hid (by rw [← hW]; exact (blk_alloc B_y.out _))
      replace B_t : Hd (Blk W13 (w2.heap.size) #[.int .i64 t.lo, .int .i64 t.hi] 25) := hid (by rw [← hW]; exact (blk_alloc B_t.out _))
      replace B_s : Hd (Blk W13 (w4.heap.size) #[.int .i64 s.sent, .int .i64 s.recv, .int .i64 s.tick] 32) := hid (by rw [← hW]; exact (blk_alloc B_s.out _))
      replace B_u : Hd (Blk W13 (w6.heap.size) #[.int .i64 u.sent, .int .i64 u.recv, .int .i64 u.tick] 32) := hid (by rw [← hW]; exact (blk_alloc B_u.out _))
      replace B_a : Hd (Blk W13 (w8.heap.size) #[.int .i64 B.lo, .int .i64 B.hi] 25) := hid (by rw [← hW]; exact (blk_alloc B_a.out _))
      have B_b : Hd (Blk W13 (w12.heap.size) #[.int .i64 B.lo, .int .i64 B.hi] 25) := hid (by rw [← hW]; exact (blk_new _ _ _))
      replace HK : Hd (Keeps (fun _ => False) w W13) := hid (by rw [← hW]; exact (Keeps.alloc (HK.out) _))
      have z13 : w12.heap.size + 1 ≤ W13.heap.size := by rw [← hW]; simp
      clear hW
      have o_a_0 : W13.cell? ⟨w8.heap.size, 0, none⟩ = some (.int .i64 (B.lo)) := blk_cell B_a.out 0
      have o_a_1 : W13.cell? ⟨w8.heap.size, 1, none⟩ = some (.int .i64 (B.hi)) := blk_cell B_a.out 1
      have o_b_0 : W13.cell? ⟨w12.heap.size, 0, none⟩ = some (.int .i64 (B.lo)) := blk_cell B_b.out 0
      have o_b_1 : W13.cell? ⟨w12.heap.size, 1, none⟩ = some (.int .i64 (B.hi)) := blk_cell B_b.out 1
      go_wp2_with fail
      clear o_a_0 o_a_1 o_b_0 o_b_1
      refine (lives_any _).mono ?_
      rintro e w14 ⟨rfl, hk⟩
      replace B_x : Hd (Blk w14 (w.heap.size) #[.int .i64 x.lo, .int .i64 x.wide, .int .i64 x.sent, .int .i64 x.took, .int .i64 x.since, .int .i64 x.tick, .int .i64 x.drift] 23) := hid (blk_keep B_x.out hk (fun h => h))
      replace B_y : Hd (Blk w14 (w.heap.size + 1) #[.int .i64 y.lo, .int .i64 y.wide, .int .i64 y.sent, .int .i64 y.took, .int .i64 y.since, .int .i64 y.tick, .int .i64 y.drift] 23) := hid (blk_keep B_y.out hk (fun h => h))
      replace B_t : Hd (Blk w14 (w2.heap.size) #[.int .i64 t.lo, .int .i64 t.hi] 25) := hid (blk_keep B_t.out hk (fun h => h))
      replace B_s : Hd (Blk w14 (w4.heap.size) #[.int .i64 s.sent, .int .i64 s.recv, .int .i64 s.tick] 32) := hid (blk_keep B_s.out hk (fun h => h))
      replace B_u : Hd (Blk w14 (w6.heap.size) #[.int .i64 u.sent, .int .i64 u.recv, .int .i64 u.tick] 32) := hid (blk_keep B_u.out hk (fun h => h))
      replace B_a : Hd (Blk w14 (w8.heap.size) #[.int .i64 B.lo, .int .i64 B.hi] 25) := hid (blk_keep B_a.out hk (fun h => h))
      replace B_b : Hd (Blk w14 (w12.heap.size) #[.int .i64 B.lo, .int .i64 B.hi] 25) := hid (blk_keep B_b.out hk (fun h => h))
      replace HK : Hd (Keeps (fun _ => False) w w14) := hid (HK.out.trans hk)
      have z14 := hk.size
      clear hk
      go_wp2
      go_ret
      exact ⟨rfl, HK.out⟩
    · have E1 := hid e1; have E2 := hid e2; clear e1 e2
      rw [E1.out]
      generalize hA : (cor t s ny d).1 = A at *
      have HA := hid hA; clear hA
      have o_t_0 : w8.cell? ⟨w2.heap.size, 0, none⟩ = some (.int .i64 (t.lo)) := blk_cell B_t.out 0
      have o_t_1 : w8.cell? ⟨w2.heap.size, 1, none⟩ = some (.int .i64 (t.hi)) := blk_cell B_t.out 1
      have o_u_0 : w8.cell? ⟨w6.heap.size, 0, none⟩ = some (.int .i64 (u.sent)) := blk_cell B_u.out 0
      have o_u_1 : w8.cell? ⟨w6.heap.size, 1, none⟩ = some (.int .i64 (u.recv)) := blk_cell B_u.out 1
      have o_u_2 : w8.cell? ⟨w6.heap.size, 2, none⟩ = some (.int .i64 (u.tick)) := blk_cell B_u.out 2
      go_upto_region 9 with (fail)
      clear o_t_0 o_t_1 o_u_0 o_u_1 o_u_2
      generalize hW : World.alloc w8 _ = W9
      replace B_x : Hd (Blk W9 (w.heap.size) #[.int .i64 x.lo, .int .i64 x.wide, .int .i64 x.sent, .int .i64 x.took, .int .i64 x.since, .int .i64 x.tick, .int .i64 x.drift] 23) := hid (by rw [← hW]; exact (blk_alloc B_x.out _))
      replace B_y : Hd (Blk W9 (w.heap.size + 1) #[.int .i64 y.lo, .int .i64 y.wide, .int .i64 y.sent, .int .i64 y.took, .int .i64 y.since, .int .i64 y.tick, .int .i64 y.drift] 23) := hid (by rw [← hW]; exact (blk_alloc B_y.out _))
      replace B_t : Hd (Blk W9 (w2.heap.size) #[.int .i64 t.lo, .int .i64 t.hi] 25) := hid (by rw [← hW]; exact (blk_alloc B_t.out _))
      replace B_s : Hd (Blk W9 (w4.heap.size) #[.int .i64 s.sent, .int .i64 s.recv, .int .i64 s.tick] 32) := hid (by rw [← hW]; exact (blk_alloc B_s.out _))
      replace B_u : Hd (Blk W9 (w6.heap.size) #[.int .i64 u.sent, .int .i64 u.recv, .int .i64 u.tick] 32) := hid (by rw [← hW]; exact (blk_alloc B_u.out _))
      have B_a : Hd (Blk W9 (w8.heap.size) #[.int .i64 A.lo, .int .i64 A.hi] 25) := hid (by rw [← hW]; exact (blk_new _ _ _))
      replace HK : Hd (Keeps (fun _ => False) w W9) := hid (by rw [← hW]; exact (Keeps.alloc (HK.out) _))
      have z9 : w8.heap.size + 1 ≤ W9.heap.size := by rw [← hW]; simp
      clear hW
      have o_t_0 : W9.cell? ⟨w2.heap.size, 0, none⟩ = some (.int .i64 (t.lo)) := blk_cell B_t.out 0
      have o_t_1 : W9.cell? ⟨w2.heap.size, 1, none⟩ = some (.int .i64 (t.hi)) := blk_cell B_t.out 1
      have o_u_0 : W9.cell? ⟨w6.heap.size, 0, none⟩ = some (.int .i64 (u.sent)) := blk_cell B_u.out 0
      have o_u_1 : W9.cell? ⟨w6.heap.size, 1, none⟩ = some (.int .i64 (u.recv)) := blk_cell B_u.out 1
      have o_u_2 : W9.cell? ⟨w6.heap.size, 2, none⟩ = some (.int .i64 (u.tick)) := blk_cell B_u.out 2
      go_wp2_with fail
      clear o_t_0 o_t_1 o_u_0 o_u_1 o_u_2
      refine (Correlate_ok t u ny d _ NU.out (by omega) d1 d2).mono ?_
      rintro e w10 ⟨rfl, hk⟩
      replace B_x : Hd (Blk w10 (w.heap.size) #[.int .i64 x.lo, .int .i64 x.wide, .int .i64 x.sent, .int .i64 x.took, .int .i64 x.since, .int .i64 x.tick, .int .i64 x.drift] 23) := hid (blk_keep B_x.out hk (fun h => h))
      replace B_y : Hd (Blk w10 (w.heap.size + 1) #[.int .i64 y.lo, .int .i64 y.wide, .int .i64 y.sent, .int .i64 y.took, .int .i64 y.since, .int .i64 y.tick, .int .i64 y.drift] 23) := hid (blk_keep B_y.out hk (fun h => h))
      replace B_t : Hd (Blk w10 (w2.heap.size) #[.int .i64 t.lo, .int .i64 t.hi] 25) := hid (blk_keep B_t.out hk (fun h => h))
      replace B_s : Hd (Blk w10 (w4.heap.size) #[.int .i64 s.sent, .int .i64 s.recv, .int .i64 s.tick] 32) := hid (blk_keep B_s.out hk (fun h => h))
      replace B_u : Hd (Blk w10 (w6.heap.size) #[.int .i64 u.sent, .int .i64 u.recv, .int .i64 u.tick] 32) := hid (blk_keep B_u.out hk (fun h => h))
      replace B_a : Hd (Blk w10 (w8.heap.size) #[.int .i64 A.lo, .int .i64 A.hi] 25) := hid (blk_keep B_a.out hk (fun h => h))
      replace HK : Hd (Keeps (fun _ => False) w w10) := hid (HK.out.trans hk)
      have z10 := hk.size
      clear hk
      rw [E2.out]
      generalize hB : (cor t u ny d).1 = B at *
      have HB := hid hB; clear hB
      have o_s_0 : w10.cell? ⟨w4.heap.size, 0, none⟩ = some (.int .i64 (s.sent)) := blk_cell B_s.out 0
      have o_s_1 : w10.cell? ⟨w4.heap.size, 1, none⟩ = some (.int .i64 (s.recv)) := blk_cell B_s.out 1
      have o_s_2 : w10.cell? ⟨w4.heap.size, 2, none⟩ = some (.int .i64 (s.tick)) := blk_cell B_s.out 2
      go_upto_region 11 with (fail)
      clear o_s_0 o_s_1 o_s_2
      generalize hW : World.alloc w10 _ = W11
      replace B_x : Hd (Blk W11 (w.heap.size) #[.int .i64 x.lo, .int .i64 x.wide, .int .i64 x.sent, .int .i64 x.took, .int .i64 x.since, .int .i64 x.tick, .int .i64 x.drift] 23) := hid (by rw [← hW]; exact (blk_alloc B_x.out _))
      replace B_y : Hd (Blk W11 (w.heap.size + 1) #[.int .i64 y.lo, .int .i64 y.wide, .int .i64 y.sent, .int .i64 y.took, .int .i64 y.since, .int .i64 y.tick, .int .i64 y.drift] 23) := hid (by rw [← hW]; exact (blk_alloc B_y.out _))
      replace B_t : Hd (Blk W11 (w2.heap.size) #[.int .i64 t.lo, .int .i64 t.hi] 25) := hid (by rw [← hW]; exact (blk_alloc B_t.out _))
      replace B_s : Hd (Blk W11 (w4.heap.size) #[.int .i64 s.sent, .int .i64 s.recv, .int .i64 s.tick] 32) := hid (by rw [← hW]; exact (blk_alloc B_s.out _))
      replace B_u : Hd (Blk W11 (w6.heap.size) #[.int .i64 u.sent, .int .i64 u.recv, .int .i64 u.tick] 32) := hid (by rw [← hW]; exact (blk_alloc B_u.out _))
      replace B_a : Hd (Blk W11 (w8.heap.size) #[.int .i64 A.lo, .int .i64 A.hi] 25) := hid (by rw [← hW]; exact (blk_alloc B_a.out _))
      have B_b : Hd (Blk W11 (w10.heap.size) #[.int .i64 B.lo, .int .i64 B.hi] 25) := hid (by rw [← hW]; exact (blk_new _ _ _))
      replace HK : Hd (Keeps (fun _ => False) w W11) := hid (by rw [← hW]; exact (Keeps.alloc (HK.out) _))
      have z11 : w10.heap.size + 1 ≤ W11.heap.size := by rw [← hW]; simp
      clear hW
      have o_b_0 : W11.cell? ⟨w10.heap.size, 0, none⟩ = some (.int .i64 (B.lo)) := blk_cell B_b.out 0
      have o_b_1 : W11.cell? ⟨w10.heap.size, 1, none⟩ = some (.int .i64 (B.hi)) := blk_cell B_b.out 1
      have o_s_0 : W11.cell? ⟨w4.heap.size, 0, none⟩ = some (.int .i64 (s.sent)) := blk_cell B_s.out 0
      have o_s_1 : W11.cell? ⟨w4.heap.size, 1, none⟩ = some (.int .i64 (s.recv)) := blk_cell B_s.out 1
      have o_s_2 : W11.cell? ⟨w4.heap.size, 2, none⟩ = some (.int .i64 (s.tick)) := blk_cell B_s.out 2
      go_wp2_with fail
      clear o_b_0 o_b_1 o_s_0 o_s_1 o_s_2
      refine (Correlate_ok B s ny d _ NS.out (by omega) d1 d2).mono ?_
      rintro e w12 ⟨rfl, hk⟩
      replace B_x : Hd (Blk w12 (w.heap.size) #[.int .i64 x.lo, .int .i64 x.wide, .int .i64 x.sent, .int .i64 x.took, .int .i64 x.since, .int .i64 x.tick, .int .i64 x.drift] 23) := hid (blk_keep B_x.out hk (fun h => h))
      replace B_y : Hd (Blk w12 (w.heap.size + 1) #[.int .i64 y.lo, .int .i64 y.wide, .int .i64 y.sent, .int .i64 y.took, .int .i64 y.since, .int .i64 y.tick, .int .i64 y.drift] 23) := hid (blk_keep B_y.out hk (fun h => h))
      replace B_t : Hd (Blk w12 (w2.heap.size) #[.int .i64 t.lo, .int .i64 t.hi] 25) := hid (blk_keep B_t.out hk (fun h => h))
      replace B_s : Hd (Blk w12 (w4.heap.size) #[.int .i64 s.sent, .int .i64 s.recv, .int .i64 s.tick] 32) := hid (blk_keep B_s.out hk (fun h => h))
      replace B_u : Hd (Blk w12 (w6.heap.size) #[.int .i64 u.sent, .int .i64 u.recv, .int .i64 u.tick] 32) := hid (blk_keep B_u.out hk (fun h => h))
      replace B_a : Hd (Blk w12 (w8.heap.size) #[.int .i64 A.lo, .int .i64 A.hi] 25) := hid (blk_keep B_a.out hk (fun h => h))
      replace B_b : Hd (Blk w12 (w10.heap.size) #[.int .i64 B.lo, .int .i64 B.hi] 25) := hid (blk_keep B_b.out hk (fun h => h))
      replace HK : Hd (Keeps (fun _ => False) w w12) := hid (HK.out.trans hk)
      have z12 := hk.size
      clear hk
      have HF : Hd (cor B s ny d = (A, 22)) := hid (by have h := HC.out; unfold cor2 at h; rw [HA.out, HB.out] at h; rw [if_neg (by rw [E1.out]; decide)] at h; rw [if_pos E2.out] at h; rw [← h, ← HA.out, ← E1.out])
      rw [HF.out]
      have o_a_0 : w12.cell? ⟨w8.heap.size, 0, none⟩ = some (.int .i64 (A.lo)) := blk_cell B_a.out 0
      have o_a_1 : w12.cell? ⟨w8.heap.size, 1, none⟩ = some (.int .i64 (A.hi)) := blk_cell B_a.out 1
      have o_b_0 : w12.cell? ⟨w10.heap.size, 0, none⟩ = some (.int .i64 (B.lo)) := blk_cell B_b.out 0
      have o_b_1 : w12.cell? ⟨w10.heap.size, 1, none⟩ = some (.int .i64 (B.hi)) := blk_cell B_b.out 1
      have f_b_0 : w12.frozen? ⟨w10.heap.size, 0, none⟩ = false := blk_free B_b.out 0
      have f_b_1 : w12.frozen? ⟨w10.heap.size, 1, none⟩ = false := blk_free B_b.out 1
      go_upto_region 12 with (fail)
      obtain ⟨KF, F2⟩ := fin2 HK.out (b := w10.heap.size) (by omega) B_b.out (.int .i64 A.lo) (.int .i64 A.hi)
      clear o_a_0 o_a_1 o_b_0 o_b_1 f_b_0 f_b_1
      generalize hW : World.setCell (World.setCell w12 _ _) _ _ = W13 at *
      replace B_a : Hd (Blk W13 (w8.heap.size) #[.int .i64 A.lo, .int .i64 A.hi] 25) := hid (by rw [← hW]; exact blk_other (blk_other B_a.out (by omega) _ _) (by omega) _ _)
      replace B_b : Hd (Blk W13 (w10.heap.size) #[.int .i64 A.lo, .int .i64 A.hi] 25) := hid F2
      replace HK := hid KF
      clear hW F2 KF
      have o_a_0 : W13.cell? ⟨w8.heap.size, 0, none⟩ = some (.int .i64 (A.lo)) := blk_cell B_a.out 0
      have o_a_1 : W13.cell? ⟨w8.heap.size, 1, none⟩ = some (.int .i64 (A.hi)) := blk_cell B_a.out 1
      have o_b_0 : W13.cell? ⟨w10.heap.size, 0, none⟩ = some (.int .i64 (A.lo)) := blk_cell B_b.out 0
      have o_b_1 : W13.cell? ⟨w10.heap.size, 1, none⟩ = some (.int .i64 (A.hi)) := blk_cell B_b.out 1
      go_wp2_with fail
      clear o_a_0 o_a_1 o_b_0 o_b_1
      refine (lives_any _).mono ?_
      rintro e w14 ⟨rfl, hk⟩
      replace B_a : Hd (Blk w14 (w8.heap.size) #[.int .i64 A.lo, .int .i64 A.hi] 25) := hid (blk_keep B_a.out hk (fun h => h))
      replace B_b : Hd (Blk w14 (w10.heap.size) #[.int .i64 A.lo, .int .i64 A.hi] 25) := hid (blk_keep B_b.out hk (fun h => h))
      replace HK : Hd (Keeps (fun _ => False) w w14) := hid (HK.out.trans hk)
      have z14 := hk.size
      clear hk
      go_wp2
      go_ret
      exact ⟨rfl, HK.out⟩
    · have E1 := hid e1; have E2 := hid e2; clear e1 e2
      rw [E1.out]
      generalize hA : (cor t s ny d).1 = A at *
      have HA := hid hA; clear hA
      have o_t_0 : w8.cell? ⟨w2.heap.size, 0, none⟩ = some (.int .i64 (t.lo)) := blk_cell B_t.out 0
      have o_t_1 : w8.cell? ⟨w2.heap.size, 1, none⟩ = some (.int .i64 (t.hi)) := blk_cell B_t.out 1
      have o_u_0 : w8.cell? ⟨w6.heap.size, 0, none⟩ = some (.int .i64 (u.sent)) := blk_cell B_u.out 0
      have o_u_1 : w8.cell? ⟨w6.heap.size, 1, none⟩ = some (.int .i64 (u.recv)) := blk_cell B_u.out 1
      have o_u_2 : w8.cell? ⟨w6.heap.size, 2, none⟩ = some (.int .i64 (u.tick)) := blk_cell B_u.out 2
      go_upto_region 9 with (fail)
      clear o_t_0 o_t_1 o_u_0 o_u_1 o_u_2
      generalize hW : World.alloc w8 _ = W9
      replace B_x : Hd (Blk W9 (w.heap.size) #[.int .i64 x.lo, .int .i64 x.wide, .int .i64 x.sent, .int .i64 x.took, .int .i64 x.since, .int .i64 x.tick, .int .i64 x.drift] 23) := hid (by rw [← hW]; exact (blk_alloc B_x.out _))
      replace B_y : Hd (Blk W9 (w.heap.size + 1) #[.int .i64 y.lo, .int .i64 y.wide, .int .i64 y.sent, .int .i64 y.took, .int .i64 y.since, .int .i64 y.tick, .int .i64 y.drift] 23) := hid (by rw [← hW]; exact (blk_alloc B_y.out _))
      replace B_t : Hd (Blk W9 (w2.heap.size) #[.int .i64 t.lo, .int .i64 t.hi] 25) := hid (by rw [← hW]; exact (blk_alloc B_t.out _))
      replace B_s : Hd (Blk W9 (w4.heap.size) #[.int .i64 s.sent, .int .i64 s.recv, .int .i64 s.tick] 32) := hid (by rw [← hW]; exact (blk_alloc B_s.out _))
      replace B_u : Hd (Blk W9 (w6.heap.size) #[.int .i64 u.sent, .int .i64 u.recv, .int .i64 u.tick] 32) := hid (by rw [← hW]; exact (blk_alloc B_u.out _))
      have B_a : Hd (Blk W9 (w8.heap.size) #[.int .i64 A.lo, .int .i64 A.hi] 25) := hid (by rw [← hW]; exact (blk_new _ _ _))
      replace HK : Hd (Keeps (fun _ => False) w W9) := hid (by rw [← hW]; exact (Keeps.alloc (HK.out) _))
      have z9 : w8.heap.size + 1 ≤ W9.heap.size := by rw [← hW]; simp
      clear hW
      have o_t_0 : W9.cell? ⟨w2.heap.size, 0, none⟩ = some (.int .i64 (t.lo)) := blk_cell B_t.out 0
      have o_t_1 : W9.cell? ⟨w2.heap.size, 1, none⟩ = some (.int .i64 (t.hi)) := blk_cell B_t.out 1
      have o_u_0 : W9.cell? ⟨w6.heap.size, 0, none⟩ = some (.int .i64 (u.sent)) := blk_cell B_u.out 0
      have o_u_1 : W9.cell? ⟨w6.heap.size, 1, none⟩ = some (.int .i64 (u.recv)) := blk_cell B_u.out 1
      have o_u_2 : W9.cell? ⟨w6.heap.size, 2, none⟩ = some (.int .i64 (u.tick)) := blk_cell B_u.out 2
      go_wp2_with fail
      clear o_t_0 o_t_1 o_u_0 o_u_1 o_u_2
      refine (Correlate_ok t u ny d _ NU.out (by omega) d1 d2).mono ?_
      rintro e w10 ⟨rfl, hk⟩
      replace B_x : Hd (Blk w10 (w.heap.size) #[.int .i64 x.lo, .int .i64 x.wide, .int .i64 x.sent, .int .i64 x.took, .int .i64 x.since, .int .i64 x.tick, .int .i64 x.drift] 23) := hid (blk_keep B_x.out hk (fun h => h))
      replace B_y : Hd (Blk w10 (w.heap.size + 1) #[.int .i64 y.lo, .int .i64 y.wide, .int .i64 y.sent, .int .i64 y.took, .int .i64 y.since, .int .i64 y.tick, .int .i64 y.drift] 23) := hid (blk_keep B_y.out hk (fun h => h))
      replace B_t : Hd (Blk w10 (w2.heap.size) #[.int .i64 t.lo, .int .i64 t.hi] 25) := hid (blk_keep B_t.out hk (fun h => h))
      replace B_s : Hd (Blk w10 (w4.heap.size) #[.int .i64 s.sent, .int .i64 s.recv, .int .i64 s.tick] 32) := hid (blk_keep B_s.out hk (fun h => h))
      replace B_u : Hd (Blk w10 (w6.heap.size) #[.int .i64 u.sent, .int .i64 u.recv, .int .i64 u.tick] 32) := hid (blk_keep B_u.out hk (fun h => h))
      replace B_a : Hd (Blk w10 (w8.heap.size) #[.int .i64 A.lo, .int .i64 A.hi] 25) := hid (blk_keep B_a.out hk (fun h => h))
      replace HK : Hd (Keeps (fun _ => False) w w10) := hid (HK.out.trans hk)
      have z10 := hk.size
      clear hk
      rw [E2.out]
      generalize hB : (cor t u ny d).1 = B at *
      have HB := hid hB; clear hB
      have HF : Hd (B = A) := hid (by have h := HC.out; unfold cor2 at h; rw [HA.out, HB.out] at h; rw [if_neg (by rw [E1.out]; decide), if_neg (by rw [E2.out]; decide)] at h; rw [← HA.out, ← HB.out, h])
      rw [HF.out]
      go_upto_region 12 with (fail)
      generalize hW : World.alloc w10 _ = W11
      replace B_x : Hd (Blk W11 (w.heap.size) #[.int .i64 x.lo, .int .i64 x.wide, .int .i64 x.sent, .int .i64 x.took, .int .i64 x.since, .int .i64 x.tick, .int .i64 x.drift] 23) := hid (by rw [← hW]; exact (blk_alloc B_x.out _))
      replace B_y : Hd (Blk W11 (w.heap.size + 1) #[.int .i64 y.lo, .int .i64 y.wide, .int .i64 y.sent, .int .i64 y.took, .int .i64 y.since, .int .i64 y.tick, .int .i64 y.drift] 23) := hid (by rw [← hW]; exact (blk_alloc B_y.out _))
      replace B_t : Hd (Blk W11 (w2.heap.size) #[.int .i64 t.lo, .int .i64 t.hi] 25) := hid (by rw [← hW]; exact (blk_alloc B_t.out _))
      replace B_s : Hd (Blk W11 (w4.heap.size) #[.int .i64 s.sent, .int .i64 s.recv, .int .i64 s.tick] 32) := hid (by rw [← hW]; exact (blk_alloc B_s.out _))
      replace B_u : Hd (Blk W11 (w6.heap.size) #[.int .i64 u.sent, .int .i64 u.recv, .int .i64 u.tick] 32) := hid (by rw [← hW]; exact (blk_alloc B_u.out _))
      replace B_a : Hd (Blk W11 (w8.heap.size) #[.int .i64 A.lo, .int .i64 A.hi] 25) := hid (by rw [← hW]; exact (blk_alloc B_a.out _))
      have B_b : Hd (Blk W11 (w10.heap.size) #[.int .i64 A.lo, .int .i64 A.hi] 25) := hid (by rw [← hW]; exact (blk_new _ _ _))
      replace HK : Hd (Keeps (fun _ => False) w W11) := hid (by rw [← hW]; exact (Keeps.alloc (HK.out) _))
      have z11 : w10.heap.size + 1 ≤ W11.heap.size := by rw [← hW]; simp
      clear hW
      have o_a_0 : W11.cell? ⟨w8.heap.size, 0, none⟩ = some (.int .i64 (A.lo)) := blk_cell B_a.out 0
      have o_a_1 : W11.cell? ⟨w8.heap.size, 1, none⟩ = some (.int .i64 (A.hi)) := blk_cell B_a.out 1
      have o_b_0 : W11.cell? ⟨w10.heap.size, 0, none⟩ = some (.int .i64 (A.lo)) := blk_cell B_b.out 0
      have o_b_1 : W11.cell? ⟨w10.heap.size, 1, none⟩ = some (.int .i64 (A.hi)) := blk_cell B_b.out 1
      go_wp2_with fail
      clear o_a_0 o_a_1 o_b_0 o_b_1
      refine (lives_any _).mono ?_
      rintro e w12 ⟨rfl, hk⟩
      replace B_x : Hd (Blk w12 (w.heap.size) #[.int .i64 x.lo, .int .i64 x.wide, .int .i64 x.sent, .int .i64 x.took, .int .i64 x.since, .int .i64 x.tick, .int .i64 x.drift] 23) := hid (blk_keep B_x.out hk (fun h => h))
      replace B_y : Hd (Blk w12 (w.heap.size + 1) #[.int .i64 y.lo, .int .i64 y.wide, .int .i64 y.sent, .int .i64 y.took, .int .i64 y.since, .int .i64 y.tick, .int .i64 y.drift] 23) := hid (blk_keep B_y.out hk (fun h => h))
      replace B_t : Hd (Blk w12 (w2.heap.size) #[.int .i64 t.lo, .int .i64 t.hi] 25) := hid (blk_keep B_t.out hk (fun h => h))
      replace B_s : Hd (Blk w12 (w4.heap.size) #[.int .i64 s.sent, .int .i64 s.recv, .int .i64 s.tick] 32) := hid (blk_keep B_s.out hk (fun h => h))
      replace B_u : Hd (Blk w12 (w6.heap.size) #[.int .i64 u.sent, .int .i64 u.recv, .int .i64 u.tick] 32) := hid (blk_keep B_u.out hk (fun h => h))
      replace B_a : Hd (Blk w12 (w8.heap.size) #[.int .i64 A.lo, .int .i64 A.hi] 25) := hid (blk_keep B_a.out hk (fun h => h))
      replace B_b : Hd (Blk w12 (w10.heap.size) #[.int .i64 A.lo, .int .i64 A.hi] 25) := hid (blk_keep B_b.out hk (fun h => h))
      replace HK : Hd (Keeps (fun _ => False) w w12) := hid (HK.out.trans hk)
      have z12 := hk.size
      clear hk
      go_wp2
      go_ret
      exact ⟨rfl, HK.out⟩
  · have hmx : max nx ny = nx := by omega
    rw [hmx] at NS NU hn
    clear hmx
    have o_x_6 : W7.cell? ⟨w.heap.size, 6, none⟩ = some (.int .i64 (x.drift)) := blk_cell B_x.out 6
    go_wp2_with fail
    refine (drift_any _ _ D1.out.1 D1.out.2).mono ?_
    rw [HD.out]
    rintro e wx ⟨rfl, rfl⟩
    clear o_x_6
    have o_t_0 : W7.cell? ⟨w2.heap.size, 0, none⟩ = some (.int .i64 (t.lo)) := blk_cell B_t.out 0
    have o_t_1 : W7.cell? ⟨w2.heap.size, 1, none⟩ = some (.int .i64 (t.hi)) := blk_cell B_t.out 1
    have o_s_0 : W7.cell? ⟨w4.heap.size, 0, none⟩ = some (.int .i64 (s.sent)) := blk_cell B_s.out 0
    have o_s_1 : W7.cell? ⟨w4.heap.size, 1, none⟩ = some (.int .i64 (s.recv)) := blk_cell B_s.out 1
    have o_s_2 : W7.cell? ⟨w4.heap.size, 2, none⟩ = some (.int .i64 (s.tick)) := blk_cell B_s.out 2
    go_wp2_with fail
    clear o_t_0 o_t_1 o_s_0 o_s_1 o_s_2
    refine (Correlate_ok t s nx d _ NS.out (by omega) d1 d2).mono ?_
    rintro e w8 ⟨rfl, hk⟩
    replace B_x : Hd (Blk w8 (w.heap.size) #[.int .i64 x.lo, .int .i64 x.wide, .int .i64 x.sent, .int .i64 x.took, .int .i64 x.since, .int .i64 x.tick, .int .i64 x.drift] 23) := hid (blk_keep B_x.out hk (fun h => h))
    replace B_y : Hd (Blk w8 (w.heap.size + 1) #[.int .i64 y.lo, .int .i64 y.wide, .int .i64 y.sent, .int .i64 y.took, .int .i64 y.since, .int .i64 y.tick, .int .i64 y.drift] 23) := hid (blk_keep B_y.out hk (fun h => h))
    replace B_t : Hd (Blk w8 (w2.heap.size) #[.int .i64 t.lo, .int .i64 t.hi] 25) := hid (blk_keep B_t.out hk (fun h => h))
    replace B_s : Hd (Blk w8 (w4.heap.size) #[.int .i64 s.sent, .int .i64 s.recv, .int .i64 s.tick] 32) := hid (blk_keep B_s.out hk (fun h => h))
    replace B_u : Hd (Blk w8 (w6.heap.size) #[.int .i64 u.sent, .int .i64 u.recv, .int .i64 u.tick] 32) := hid (blk_keep B_u.out hk (fun h => h))
    replace HK : Hd (Keeps (fun _ => False) w w8) := hid (HK.out.trans hk)
    have z8 := hk.size
    clear hk
    have HC := hid (cor2_comm t s u nx d NS.out NU.out)
    rcases cor_ok (t := t) (d := d) NS.out with e1 | e1 <;> rcases cor_ok (t := t) (d := d) NU.out with e2 | e2
    · have E1 := hid e1; have E2 := hid e2; clear e1 e2
      rw [E1.out]
      generalize hA : (cor t s nx d).1 = A at *
      have HA := hid hA; clear hA
      have o_u_0 : w8.cell? ⟨w6.heap.size, 0, none⟩ = some (.int .i64 (u.sent)) := blk_cell B_u.out 0
      have o_u_1 : w8.cell? ⟨w6.heap.size, 1, none⟩ = some (.int .i64 (u.recv)) := blk_cell B_u.out 1
      have o_u_2 : w8.cell? ⟨w6.heap.size, 2, none⟩ = some (.int .i64 (u.tick)) := blk_cell B_u.out 2
      go_upto_region 8 with (fail)
      clear o_u_0 o_u_1 o_u_2
      generalize hW : World.alloc w8 _ = W9
      replace B_x : Hd (Blk W9 (w.heap.size) #[.int .i64 x.lo, .int .i64 x.wide, .int .i64 x.sent, .int .i64 x.took, .int .i64 x.since, .int .i64 x.tick, .int .i64 x.drift] 23) := hid (by rw [← hW]; exact (blk_alloc B_x.out _))
      replace B_y : Hd (Blk W9 (w.heap.size + 1) #[.int .i64 y.lo, .int .i64 y.wide, .int .i64 y.sent, .int .i64 y.took, .int .i64 y.since, .int .i64 y.tick, .int .i64 y.drift] 23) := hid (by rw [← hW]; exact (blk_alloc B_y.out _))
      replace B_t : Hd (Blk W9 (w2.heap.size) #[.int .i64 t.lo, .int .i64 t.hi] 25) := hid (by rw [← hW]; exact (blk_alloc B_t.out _))
      replace B_s : Hd (Blk W9 (w4.heap.size) #[.int .i64 s.sent, .int .i64 s.recv, .int .i64 s.tick] 32) := hid (by rw [← hW]; exact (blk_alloc B_s.out _))
      replace B_u : Hd (Blk W9 (w6.heap.size) #[.int .i64 u.sent, .int .i64 u.recv, .int .i64 u.tick] 32) := hid (by rw [← hW]; exact (blk_alloc B_u.out _))
      have B_a : Hd (Blk W9 (w8.heap.size) #[.int .i64 A.lo, .int .i64 A.hi] 25) := hid (by rw [← hW]; exact (blk_new _ _ _))
      replace HK : Hd (Keeps (fun _ => False) w W9) := hid (by rw [← hW]; exact (Keeps.alloc (HK.out) _))
      have z9 : w8.heap.size + 1 ≤ W9.heap.size := by rw [← hW]; simp
      clear hW
      have o_a_0 : W9.cell? ⟨w8.heap.size, 0, none⟩ = some (.int .i64 (A.lo)) := blk_cell B_a.out 0
      have o_a_1 : W9.cell? ⟨w8.heap.size, 1, none⟩ = some (.int .i64 (A.hi)) := blk_cell B_a.out 1
      have o_u_0 : W9.cell? ⟨w6.heap.size, 0, none⟩ = some (.int .i64 (u.sent)) := blk_cell B_u.out 0
      have o_u_1 : W9.cell? ⟨w6.heap.size, 1, none⟩ = some (.int .i64 (u.recv)) := blk_cell B_u.out 1
      have o_u_2 : W9.cell? ⟨w6.heap.size, 2, none⟩ = some (.int .i64 (u.tick)) := blk_cell B_u.out 2
      go_wp2_with fail
      clear o_a_0 o_a_1 o_u_0 o_u_1 o_u_2
      refine (Correlate_ok A u nx d _ NU.out (by omega) d1 d2).mono ?_
      rintro e w10 ⟨rfl, hk⟩
      replace B_x : Hd (Blk w10 (w.heap.size) #[.int .i64 x.lo, .int .i64 x.wide, .int .i64 x.sent, .int .i64 x.took, .int .i64 x.since, .int .i64 x.tick, .int .i64 x.drift] 23) := hid (blk_keep B_x.out hk (fun h => h))
      replace B_y : Hd (Blk w10 (w.heap.size + 1) #[.int .i64 y.lo, .int .i64 y.wide, .int .i64 y.sent, .int .i64 y.took, .int .i64 y.since, .int .i64 y.tick, .int .i64 y.drift] 23) := hid (blk_keep B_y.out hk (fun h => h))
      replace B_t : Hd (Blk w10 (w2.heap.size) #[.int .i64 t.lo, .int .i64 t.hi] 25) := hid (blk_keep B_t.out hk (fun h => h))
      replace B_s : Hd (Blk w10 (w4.heap.size) #[.int .i64 s.sent, .int .i64 s.recv, .int .i64 s.tick] 32) := hid (blk_keep B_s.out hk (fun h => h))
      replace B_u : Hd (Blk w10 (w6.heap.size) #[.int .i64 u.sent, .int .i64 u.recv, .int .i64 u.tick] 32) := hid (blk_keep B_u.out hk (fun h => h))
      replace B_a : Hd (Blk w10 (w8.heap.size) #[.int .i64 A.lo, .int .i64 A.hi] 25) := hid (blk_keep B_a.out hk (fun h => h))
      replace HK : Hd (Keeps (fun _ => False) w w10) := hid (HK.out.trans hk)
      have z10 := hk.size
      clear hk
      generalize hR : cor A u nx d = R at *
      have HR := hid hR; clear hR
      have o_a_0 : w10.cell? ⟨w8.heap.size, 0, none⟩ = some (.int .i64 (A.lo)) := blk_cell B_a.out 0
      have o_a_1 : w10.cell? ⟨w8.heap.size, 1, none⟩ = some (.int .i64 (A.hi)) := blk_cell B_a.out 1
      have o_t_0 : w10.cell? ⟨w2.heap.size, 0, none⟩ = some (.int .i64 (t.lo)) := blk_cell B_t.out 0
      have o_t_1 : w10.cell? ⟨w2.heap.size, 1, none⟩ = some (.int .i64 (t.hi)) := blk_cell B_t.out 1
      have o_u_0 : w10.cell? ⟨w6.heap.size, 0, none⟩ = some (.int .i64 (u.sent)) := blk_cell B_u.out 0
      have o_u_1 : w10.cell? ⟨w6.heap.size, 1, none⟩ = some (.int .i64 (u.recv)) := blk_cell B_u.out 1
      have o_u_2 : w10.cell? ⟨w6.heap.size, 2, none⟩ = some (.int .i64 (u.tick)) := blk_cell B_u.out 2
      have f_a_0 : w10.frozen? ⟨w8.heap.size, 0, none⟩ = false := blk_free B_a.out 0
      have f_a_1 : w10.frozen? ⟨w8.heap.size, 1, none⟩ = false := blk_free B_a.out 1
      go_upto_region 9 with (fail)
      obtain ⟨KF, F2⟩ := fin2 HK.out (b := w8.heap.size) (by omega) B_a.out (.int .i64 R.1.lo) (.int .i64 R.1.hi)
      clear o_a_0 o_a_1 o_t_0 o_t_1 o_u_0 o_u_1 o_u_2 f_a_0 f_a_1
      generalize hW : World.setCell (World.setCell w10 _ _) _ _ = W11 at *
      replace B_x : Hd (Blk W11 (w.heap.size) #[.int .i64 x.lo, .int .i64 x.wide, .int .i64 x.sent, .int .i64 x.took, .int .i64 x.since, .int .i64 x.tick, .int .i64 x.drift] 23) := hid (by rw [← hW]; exact blk_other (blk_other B_x.out (by omega) _ _) (by omega) _ _)
      replace B_y : Hd (Blk W11 (w.heap.size + 1) #[.int .i64 y.lo, .int .i64 y.wide, .int .i64 y.sent, .int .i64 y.took, .int .i64 y.since, .int .i64 y.tick, .int .i64 y.drift] 23) := hid (by rw [← hW]; exact blk_other (blk_other B_y.out (by omega) _ _) (by omega) _ _)
      replace B_t : Hd (Blk W11 (w2.heap.size) #[.int .i64 t.lo, .int .i64 t.hi] 25) := hid (by rw [← hW]; exact blk_other (blk_other B_t.out (by omega) _ _) (by omega) _ _)
      replace B_s : Hd (Blk W11 (w4.heap.size) #[.int .i64 s.sent, .int .i64 s.recv, .int .i64 s.tick] 32) := hid (by rw [← hW]; exact blk_other (blk_other B_s.out (by omega) _ _) (by omega) _ _)
      replace B_u : Hd (Blk W11 (w6.heap.size) #[.int .i64 u.sent, .int .i64 u.recv, .int .i64 u.tick] 32) := hid (by rw [← hW]; exact blk_other (blk_other B_u.out (by omega) _ _) (by omega) _ _)
      replace B_a : Hd (Blk W11 (w8.heap.size) #[.int .i64 R.1.lo, .int .i64 R.1.hi] 25) := hid F2
      replace HK := hid KF
      have zz11 : w10.heap.size ≤ W11.heap.size := by rw [← hW]; simp [World.setCell]
      clear hW F2 KF
      have o_t_0 : W11.cell? ⟨w2.heap.size, 0, none⟩ = some (.int .i64 (t.lo)) := blk_cell B_t.out 0
      have o_t_1 : W11.cell? ⟨w2.heap.size, 1, none⟩ = some (.int .i64 (t.hi)) := blk_cell B_t.out 1
      have o_u_0 : W11.cell? ⟨w6.heap.size, 0, none⟩ = some (.int .i64 (u.sent)) := blk_cell B_u.out 0
      have o_u_1 : W11.cell? ⟨w6.heap.size, 1, none⟩ = some (.int .i64 (u.recv)) := blk_cell B_u.out 1
      have o_u_2 : W11.cell? ⟨w6.heap.size, 2, none⟩ = some (.int .i64 (u.tick)) := blk_cell B_u.out 2
      go_wp2_with fail
      clear o_t_0 o_t_1 o_u_0 o_u_1 o_u_2
      refine (Correlate_ok t u nx d _ NU.out (by omega) d1 d2).mono ?_
      rintro e w12 ⟨rfl, hk⟩
      replace B_x : Hd (Blk w12 (w.heap.size) #[.int .i64 x.lo, .int .i64 x.wide, .int .i64 x.sent, .int .i64 x.took, .int .i64 x.since, .int .i64 x.tick, .int .i64 x.drift] 23) := hid (blk_keep B_x.out hk (fun h => h))
      replace B_y : Hd (Blk w12 (w.heap.size + 1) #[.int .i64 y.lo, .int .i64 y.wide, .int .i64 y.sent, .int .i64 y.took, .int .i64 y.since, .int .i64 y.tick, .int .i64 y.drift] 23) := hid (blk_keep B_y.out hk (fun h => h))
      replace B_t : Hd (Blk w12 (w2.heap.size) #[.int .i64 t.lo, .int .i64 t.hi] 25) := hid (blk_keep B_t.out hk (fun h => h))
      replace B_s : Hd (Blk w12 (w4.heap.size) #[.int .i64 s.sent, .int .i64 s.recv, .int .i64 s.tick] 32) := hid (blk_keep B_s.out hk (fun h => h))
      replace B_u : Hd (Blk w12 (w6.heap.size) #[.int .i64 u.sent, .int .i64 u.recv, .int .i64 u.tick] 32) := hid (blk_keep B_u.out hk (fun h => h))
      replace B_a : Hd (Blk w12 (w8.heap.size) #[.int .i64 R.1.lo, .int .i64 R.1.hi] 25) := hid (blk_keep B_a.out hk (fun h => h))
      replace HK : Hd (Keeps (fun _ => False) w w12) := hid (HK.out.trans hk)
      have z12 := hk.size
      clear hk
      rw [E2.out]
      generalize hB : (cor t u nx d).1 = B at *
      have HB := hid hB; clear hB
      have o_s_0 : w12.cell? ⟨w4.heap.size, 0, none⟩ = some (.int .i64 (s.sent)) := blk_cell B_s.out 0
      have o_s_1 : w12.cell? ⟨w4.heap.size, 1, none⟩ = some (.int .i64 (s.recv)) := blk_cell B_s.out 1
      have o_s_2 : w12.cell? ⟨w4.heap.size, 2, none⟩ = some (.int .i64 (s.tick)) := blk_cell B_s.out 2
      go_upto_region 11 with (fail)
      clear o_s_0 o_s_1 o_s_2
      generalize hW : World.alloc w12 _ = W13
      replace B_x : Hd (Blk W13 (w.heap.size) #[.int .i64 x.lo, .int .i64 x.wide, .int .i64 x.sent, .int .i64 x.took, .int .i64 x.since, .int .i64 x.tick, .int .i64 x.drift] 23) := hid (by rw [← hW]; exact (blk_alloc B_x.out _))
      replace B_y : Hd (Blk W13 (w.heap.size + 1) #[.int .i64 y.lo, .int .i64 y.wide, .int .i64 y.sent, .int .i64 y.took, .int .i64 y.since, .int .i64 y.tick, .int .i64 y.drift] 23) := hid (by rw [← hW]; exact (blk_alloc B_y.out _))
      replace B_t : Hd (Blk W13 (w2.heap.size) #[.int .i64 t.lo, .int .i64 t.hi] 25) := hid (by rw [← hW]; exact (blk_alloc B_t.out _))
      replace B_s : Hd (Blk W13 (w4.heap.size) #[.int .i64 s.sent, .int .i64 s.recv, .int .i64 s.tick] 32) := hid (by rw [← hW]; exact (blk_alloc B_s.out _))
      replace B_u : Hd (Blk W13 (w6.heap.size) #[.int .i64 u.sent, .int .i64 u.recv, .int .i64 u.tick] 32) := hid (by rw [← hW]; exact (blk_alloc B_u.out _))
      replace B_a : Hd (Blk W13 (w8.heap.size) #[.int .i64 R.1.lo, .int .i64 R.1.hi] 25) := hid (by rw [← hW]; exact (blk_alloc B_a.out _))
      have B_b : Hd (Blk W13 (w12.heap.size) #[.int .i64 B.lo, .int .i64 B.hi] 25) := hid (by rw [← hW]; exact (blk_new _ _ _))
      replace HK : Hd (Keeps (fun _ => False) w W13) := hid (by rw [← hW]; exact (Keeps.alloc (HK.out) _))
      have z13 : w12.heap.size + 1 ≤ W13.heap.size := by rw [← hW]; simp
      clear hW
      have o_b_0 : W13.cell? ⟨w12.heap.size, 0, none⟩ = some (.int .i64 (B.lo)) := blk_cell B_b.out 0
      have o_b_1 : W13.cell? ⟨w12.heap.size, 1, none⟩ = some (.int .i64 (B.hi)) := blk_cell B_b.out 1
      have o_s_0 : W13.cell? ⟨w4.heap.size, 0, none⟩ = some (.int .i64 (s.sent)) := blk_cell B_s.out 0
      have o_s_1 : W13.cell? ⟨w4.heap.size, 1, none⟩ = some (.int .i64 (s.recv)) := blk_cell B_s.out 1
      have o_s_2 : W13.cell? ⟨w4.heap.size, 2, none⟩ = some (.int .i64 (s.tick)) := blk_cell B_s.out 2
      go_wp2_with fail
      clear o_b_0 o_b_1 o_s_0 o_s_1 o_s_2
      refine (Correlate_ok B s nx d _ NS.out (by omega) d1 d2).mono ?_
      rintro e w14 ⟨rfl, hk⟩
      replace B_x : Hd (Blk w14 (w.heap.size) #[.int .i64 x.lo, .int .i64 x.wide, .int .i64 x.sent, .int .i64 x.took, .int .i64 x.since, .int .i64 x.tick, .int .i64 x.drift] 23) := hid (blk_keep B_x.out hk (fun h => h))
      replace B_y : Hd (Blk w14 (w.heap.size + 1) #[.int .i64 y.lo, .int .i64 y.wide, .int .i64 y.sent, .int .i64 y.took, .int .i64 y.since, .int .i64 y.tick, .int .i64 y.drift] 23) := hid (blk_keep B_y.out hk (fun h => h))
      replace B_t : Hd (Blk w14 (w2.heap.size) #[.int .i64 t.lo, .int .i64 t.hi] 25) := hid (blk_keep B_t.out hk (fun h => h))
      replace B_s : Hd (Blk w14 (w4.heap.size) #[.int .i64 s.sent, .int .i64 s.recv, .int .i64 s.tick] 32) := hid (blk_keep B_s.out hk (fun h => h))
      replace B_u : Hd (Blk w14 (w6.heap.size) #[.int .i64 u.sent, .int .i64 u.recv, .int .i64 u.tick] 32) := hid (blk_keep B_u.out hk (fun h => h))
      replace B_a : Hd (Blk w14 (w8.heap.size) #[.int .i64 R.1.lo, .int .i64 R.1.hi] 25) := hid (blk_keep B_a.out hk (fun h => h))
      replace B_b : Hd (Blk w14 (w12.heap.size) #[.int .i64 B.lo, .int .i64 B.hi] 25) := hid (blk_keep B_b.out hk (fun h => h))
      replace HK : Hd (Keeps (fun _ => False) w w14) := hid (HK.out.trans hk)
      have z14 := hk.size
      clear hk
      have HF : Hd (cor B s nx d = R) := hid (by have h := HC.out; unfold cor2 at h; rw [HA.out, HB.out] at h; rw [if_pos E1.out] at h; rw [HR.out] at h; rw [if_pos E2.out] at h; rw [← h])
      rw [HF.out]
      have o_a_0 : w14.cell? ⟨w8.heap.size, 0, none⟩ = some (.int .i64 (R.1.lo)) := blk_cell B_a.out 0
      have o_a_1 : w14.cell? ⟨w8.heap.size, 1, none⟩ = some (.int .i64 (R.1.hi)) := blk_cell B_a.out 1
      have o_b_0 : w14.cell? ⟨w12.heap.size, 0, none⟩ = some (.int .i64 (B.lo)) := blk_cell B_b.out 0
      have o_b_1 : w14.cell? ⟨w12.heap.size, 1, none⟩ = some (.int .i64 (B.hi)) := blk_cell B_b.out 1
      have f_b_0 : w14.frozen? ⟨w12.heap.size, 0, none⟩ = false := blk_free B_b.out 0
      have f_b_1 : w14.frozen? ⟨w12.heap.size, 1, none⟩ = false := blk_free B_b.out 1
      go_upto_region 12 with (fail)
      obtain ⟨KF, F2⟩ := fin2 HK.out (b := w12.heap.size) (by omega) B_b.out (.int .i64 R.1.lo) (.int .i64 R.1.hi)
      clear o_a_0 o_a_1 o_b_0 o_b_1 f_b_0 f_b_1
      generalize hW : World.setCell (World.setCell w14 _ _) _ _ = W15 at *
      replace B_a : Hd (Blk W15 (w8.heap.size) #[.int .i64 R.1.lo, .int .i64 R.1.hi] 25) := hid (by rw [← hW]; exact blk_other (blk_other B_a.out (by omega) _ _) (by omega) _ _)
      replace B_b : Hd (Blk W15 (w12.heap.size) #[.int .i64 R.1.lo, .int .i64 R.1.hi] 25) := hid F2
      replace HK := hid KF
      clear hW F2 KF
      have o_a_0 : W15.cell? ⟨w8.heap.size, 0, none⟩ = some (.int .i64 (R.1.lo)) := blk_cell B_a.out 0
      have o_a_1 : W15.cell? ⟨w8.heap.size, 1, none⟩ = some (.int .i64 (R.1.hi)) := blk_cell B_a.out 1
      have o_b_0 : W15.cell? ⟨w12.heap.size, 0, none⟩ = some (.int .i64 (R.1.lo)) := blk_cell B_b.out 0
      have o_b_1 : W15.cell? ⟨w12.heap.size, 1, none⟩ = some (.int .i64 (R.1.hi)) := blk_cell B_b.out 1
      go_wp2_with fail
      clear o_a_0 o_a_1 o_b_0 o_b_1
      refine (lives_any _).mono ?_
      rintro e w16 ⟨rfl, hk⟩
      replace B_a : Hd (Blk w16 (w8.heap.size) #[.int .i64 R.1.lo, .int .i64 R.1.hi] 25) := hid (blk_keep B_a.out hk (fun h => h))
      replace B_b : Hd (Blk w16 (w12.heap.size) #[.int .i64 R.1.lo, .int .i64 R.1.hi] 25) := hid (blk_keep B_b.out hk (fun h => h))
      replace HK : Hd (Keeps (fun _ => False) w w16) := hid (HK.out.trans hk)
      have z16 := hk.size
      clear hk
      go_wp2
      go_ret
      exact ⟨rfl, HK.out⟩
    · have E1 := hid e1; have E2 := hid e2; clear e1 e2
      rw [E1.out]
      generalize hA : (cor t s nx d).1 = A at *
      have HA := hid hA; clear hA
      have o_u_0 : w8.cell? ⟨w6.heap.size, 0, none⟩ = some (.int .i64 (u.sent)) := blk_cell B_u.out 0
      have o_u_1 : w8.cell? ⟨w6.heap.size, 1, none⟩ = some (.int .i64 (u.recv)) := blk_cell B_u.out 1
      have o_u_2 : w8.cell? ⟨w6.heap.size, 2, none⟩ = some (.int .i64 (u.tick)) := blk_cell B_u.out 2
      go_upto_region 8 with (fail)
      clear o_u_0 o_u_1 o_u_2
      generalize hW : World.alloc w8 _ = W9
      replace B_x : Hd (Blk W9 (w.heap.size) #[.int .i64 x.lo, .int .i64 x.wide, .int .i64 x.sent, .int .i64 x.took, .int .i64 x.since, .int .i64 x.tick, .int .i64 x.drift] 23) := hid (by rw [← hW]; exact (blk_alloc B_x.out _))
      replace B_y : Hd (Blk W9 (w.heap.size + 1) #[.int .i64 y.lo, .int .i64 y.wide, .int .i64 y.sent, .int .i64 y.took, .int .i64 y.since, .int .i64 y.tick, .int .i64 y.drift] 23) := hid (by rw [← hW]; exact (blk_alloc B_y.out _))
      replace B_t : Hd (Blk W9 (w2.heap.size) #[.int .i64 t.lo, .int .i64 t.hi] 25) := hid (by rw [← hW]; exact (blk_alloc B_t.out _))
      replace B_s : Hd (Blk W9 (w4.heap.size) #[.int .i64 s.sent, .int .i64 s.recv, .int .i64 s.tick] 32) := hid (by rw [← hW]; exact (blk_alloc B_s.out _))
      replace B_u : Hd (Blk W9 (w6.heap.size) #[.int .i64 u.sent, .int .i64 u.recv, .int .i64 u.tick] 32) := hid (by rw [← hW]; exact (blk_alloc B_u.out _))
      have B_a : Hd (Blk W9 (w8.heap.size) #[.int .i64 A.lo, .int .i64 A.hi] 25) := hid (by rw [← hW]; exact (blk_new _ _ _))
      replace HK : Hd (Keeps (fun _ => False) w W9) := hid (by rw [← hW]; exact (Keeps.alloc (HK.out) _))
      have z9 : w8.heap.size + 1 ≤ W9.heap.size := by rw [← hW]; simp
      clear hW
      have o_a_0 : W9.cell? ⟨w8.heap.size, 0, none⟩ = some (.int .i64 (A.lo)) := blk_cell B_a.out 0
      have o_a_1 : W9.cell? ⟨w8.heap.size, 1, none⟩ = some (.int .i64 (A.hi)) := blk_cell B_a.out 1
      have o_u_0 : W9.cell? ⟨w6.heap.size, 0, none⟩ = some (.int .i64 (u.sent)) := blk_cell B_u.out 0
      have o_u_1 : W9.cell? ⟨w6.heap.size, 1, none⟩ = some (.int .i64 (u.recv)) := blk_cell B_u.out 1
      have o_u_2 : W9.cell? ⟨w6.heap.size, 2, none⟩ = some (.int .i64 (u.tick)) := blk_cell B_u.out 2
      go_wp2_with fail
      clear o_a_0 o_a_1 o_u_0 o_u_1 o_u_2
      refine (Correlate_ok A u nx d _ NU.out (by omega) d1 d2).mono ?_
      rintro e w10 ⟨rfl, hk⟩
      replace B_x : Hd (Blk w10 (w.heap.size) #[.int .i64 x.lo, .int .i64 x.wide, .int .i64 x.sent, .int .i64 x.took, .int .i64 x.since, .int .i64 x.tick, .int .i64 x.drift] 23) := hid (blk_keep B_x.out hk (fun h => h))
      replace B_y : Hd (Blk w10 (w.heap.size + 1) #[.int .i64 y.lo, .int .i64 y.wide, .int .i64 y.sent, .int .i64 y.took, .int .i64 y.since, .int .i64 y.tick, .int .i64 y.drift] 23) := hid (blk_keep B_y.out hk (fun h => h))
      replace B_t : Hd (Blk w10 (w2.heap.size) #[.int .i64 t.lo, .int .i64 t.hi] 25) := hid (blk_keep B_t.out hk (fun h => h))
      replace B_s : Hd (Blk w10 (w4.heap.size) #[.int .i64 s.sent, .int .i64 s.recv, .int .i64 s.tick] 32) := hid (blk_keep B_s.out hk (fun h => h))
      replace B_u : Hd (Blk w10 (w6.heap.size) #[.int .i64 u.sent, .int .i64 u.recv, .int .i64 u.tick] 32) := hid (blk_keep B_u.out hk (fun h => h))
      replace B_a : Hd (Blk w10 (w8.heap.size) #[.int .i64 A.lo, .int .i64 A.hi] 25) := hid (blk_keep B_a.out hk (fun h => h))
      replace HK : Hd (Keeps (fun _ => False) w w10) := hid (HK.out.trans hk)
      have z10 := hk.size
      clear hk
      generalize hR : cor A u nx d = R at *
      have HR := hid hR; clear hR
      have o_a_0 : w10.cell? ⟨w8.heap.size, 0, none⟩ = some (.int .i64 (A.lo)) := blk_cell B_a.out 0
      have o_a_1 : w10.cell? ⟨w8.heap.size, 1, none⟩ = some (.int .i64 (A.hi)) := blk_cell B_a.out 1
      have o_t_0 : w10.cell? ⟨w2.heap.size, 0, none⟩ = some (.int .i64 (t.lo)) := blk_cell B_t.out 0
      have o_t_1 : w10.cell? ⟨w2.heap.size, 1, none⟩ = some (.int .i64 (t.hi)) := blk_cell B_t.out 1
      have o_u_0 : w10.cell? ⟨w6.heap.size, 0, none⟩ = some (.int .i64 (u.sent)) := blk_cell B_u.out 0
      have o_u_1 : w10.cell? ⟨w6.heap.size, 1, none⟩ = some (.int .i64 (u.recv)) := blk_cell B_u.out 1
      have o_u_2 : w10.cell? ⟨w6.heap.size, 2, none⟩ = some (.int .i64 (u.tick)) := blk_cell B_u.out 2
      have f_a_0 : w10.frozen? ⟨w8.heap.size, 0, none⟩ = false := blk_free B_a.out 0
      have f_a_1 : w10.frozen? ⟨w8.heap.size, 1, none⟩ = false := blk_free B_a.out 1
      go_upto_region 9 with (fail)
      obtain ⟨KF, F2⟩ := fin2 HK.out (b := w8.heap.size) (by omega) B_a.out (.int .i64 R.1.lo) (.int .i64 R.1.hi)
      clear o_a_0 o_a_1 o_t_0 o_t_1 o_u_0 o_u_1 o_u_2 f_a_0 f_a_1
      generalize hW : World.setCell (World.setCell w10 _ _) _ _ = W11 at *
      replace B_x : Hd (Blk W11 (w.heap.size) #[.int .i64 x.lo, .int .i64 x.wide, .int .i64 x.sent, .int .i64 x.took, .int .i64 x.since, .int .i64 x.tick, .int .i64 x.drift] 23) := hid (by rw [← hW]; exact blk_other (blk_other B_x.out (by omega) _ _) (by omega) _ _)
      replace B_y : Hd (Blk W11 (w.heap.size + 1) #[.int .i64 y.lo, .int .i64 y.wide, .int .i64 y.sent, .int .i64 y.took, .int .i64 y.since, .int .i64 y.tick, .int .i64 y.drift] 23) := hid (by rw [← hW]; exact blk_other (blk_other B_y.out (by omega) _ _) (by omega) _ _)
      replace B_t : Hd (Blk W11 (w2.heap.size) #[.int .i64 t.lo, .int .i64 t.hi] 25) := hid (by rw [← hW]; exact blk_other (blk_other B_t.out (by omega) _ _) (by omega) _ _)
      replace B_s : Hd (Blk W11 (w4.heap.size) #[.int .i64 s.sent, .int .i64 s.recv, .int .i64 s.tick] 32) := hid (by rw [← hW]; exact blk_other (blk_other B_s.out (by omega) _ _) (by omega) _ _)
      replace B_u : Hd (Blk W11 (w6.heap.size) #[.int .i64 u.sent, .int .i64 u.recv, .int .i64 u.tick] 32) := hid (by rw [← hW]; exact blk_other (blk_other B_u.out (by omega) _ _) (by omega) _ _)
      replace B_a : Hd (Blk W11 (w8.heap.size) #[.int .i64 R.1.lo, .int .i64 R.1.hi] 25) := hid F2
      replace HK := hid KF
      have zz11 : w10.heap.size ≤ W11.heap.size := by rw [← hW]; simp [World.setCell]
      clear hW F2 KF
      have o_t_0 : W11.cell? ⟨w2.heap.size, 0, none⟩ = some (.int .i64 (t.lo)) := blk_cell B_t.out 0
      have o_t_1 : W11.cell? ⟨w2.heap.size, 1, none⟩ = some (.int .i64 (t.hi)) := blk_cell B_t.out 1
      have o_u_0 : W11.cell? ⟨w6.heap.size, 0, none⟩ = some (.int .i64 (u.sent)) := blk_cell B_u.out 0
      have o_u_1 : W11.cell? ⟨w6.heap.size, 1, none⟩ = some (.int .i64 (u.recv)) := blk_cell B_u.out 1
      have o_u_2 : W11.cell? ⟨w6.heap.size, 2, none⟩ = some (.int .i64 (u.tick)) := blk_cell B_u.out 2
      go_wp2_with fail
      clear o_t_0 o_t_1 o_u_0 o_u_1 o_u_2
      refine (Correlate_ok t u nx d _ NU.out (by omega) d1 d2).mono ?_
      rintro e w12 ⟨rfl, hk⟩
      replace B_x : Hd (Blk w12 (w.heap.size) #[.int .i64 x.lo, .int .i64 x.wide, .int .i64 x.sent, .int .i64 x.took, .int .i64 x.since, .int .i64 x.tick, .int .i64 x.drift] 23) := hid (blk_keep B_x.out hk (fun h => h))
      replace B_y : Hd (Blk w12 (w.heap.size + 1) #[.int .i64 y.lo, .int .i64 y.wide, .int .i64 y.sent, .int .i64 y.took, .int .i64 y.since, .int .i64 y.tick, .int .i64 y.drift] 23) := hid (blk_keep B_y.out hk (fun h => h))
      replace B_t : Hd (Blk w12 (w2.heap.size) #[.int .i64 t.lo, .int .i64 t.hi] 25) := hid (blk_keep B_t.out hk (fun h => h))
      replace B_s : Hd (Blk w12 (w4.heap.size) #[.int .i64 s.sent, .int .i64 s.recv, .int .i64 s.tick] 32) := hid (blk_keep B_s.out hk (fun h => h))
      replace B_u : Hd (Blk w12 (w6.heap.size) #[.int .i64 u.sent, .int .i64 u.recv, .int .i64 u.tick] 32) := hid (blk_keep B_u.out hk (fun h => h))
      replace B_a : Hd (Blk w12 (w8.heap.size) #[.int .i64 R.1.lo, .int .i64 R.1.hi] 25) := hid (blk_keep B_a.out hk (fun h => h))
      replace HK : Hd (Keeps (fun _ => False) w w12) := hid (HK.out.trans hk)
      have z12 := hk.size
      clear hk
      rw [E2.out]
      generalize hB : (cor t u nx d).1 = B at *
      have HB := hid hB; clear hB
      have HF : Hd (R = (B, 22)) := hid (by have h := HC.out; unfold cor2 at h; rw [HA.out, HB.out] at h; rw [if_pos E1.out, if_neg (by rw [E2.out]; decide)] at h; rw [HR.out] at h; rw [h, ← HB.out, ← E2.out])
      rw [HF.out] at B_a ⊢
      go_upto_region 12 with (fail)
      generalize hW : World.alloc w12 _ = W13
      replace B_x : Hd (Blk W13 (w.heap.size) #[.int .i64 x.lo, .int .i64 x.wide, .int .i64 x.sent, .int .i64 x.took, .int .i64 x.since, .int .i64 x.tick, .int .i64 x.drift] 23) := hid (by rw [← hW]; exact (blk_alloc B_x.out _))
      replace B_y : Hd (Blk W13 (w.heap.size + 1) #[.int .i64 y.lo, .int .i64 y.wide, .int .i64 y.sent, .int .i64 y.took, .int .i64 y.since, .int .i64 y.tick, .int .i64 y.drift] 23) := hid (by rw [← hW]; exact (blk_alloc B_y.out _))
      replace B_t : Hd (Blk W13 (w2.heap.size) #[.int .i64 t.lo, .int .i64 t.hi] 25) := hid (by rw [← hW]; exact (blk_alloc B_t.out _))
      replace B_s : Hd (Blk W13 (w4.heap.size) #[.int .i64 s.sent, .int .i64 s.recv, .int .i64 s.tick] 32) := hid (by rw [← hW]; exact (blk_alloc B_s.out _))
      replace B_u : Hd (Blk W13 (w6.heap.size) #[.int .i64 u.sent, .int .i64 u.recv, .int .i64 u.tick] 32) := hid (by rw [← hW]; exact (blk_alloc B_u.out _))
      replace B_a : Hd (Blk W13 (w8.heap.size) #[.int .i64 B.lo, .int .i64 B.hi] 25) := hid (by rw [← hW]; exact (blk_alloc B_a.out _))
      have B_b : Hd (Blk W13 (w12.heap.size) #[.int .i64 B.lo, .int .i64 B.hi] 25) := hid (by rw [← hW]; exact (blk_new _ _ _))
      replace HK : Hd (Keeps (fun _ => False) w W13) := hid (by rw [← hW]; exact (Keeps.alloc (HK.out) _))
      have z13 : w12.heap.size + 1 ≤ W13.heap.size := by rw [← hW]; simp
      clear hW
      have o_a_0 : W13.cell? ⟨w8.heap.size, 0, none⟩ = some (.int .i64 (B.lo)) := blk_cell B_a.out 0
      have o_a_1 : W13.cell? ⟨w8.heap.size, 1, none⟩ = some (.int .i64 (B.hi)) := blk_cell B_a.out 1
      have o_b_0 : W13.cell? ⟨w12.heap.size, 0, none⟩ = some (.int .i64 (B.lo)) := blk_cell B_b.out 0
      have o_b_1 : W13.cell? ⟨w12.heap.size, 1, none⟩ = some (.int .i64 (B.hi)) := blk_cell B_b.out 1
      go_wp2_with fail
      clear o_a_0 o_a_1 o_b_0 o_b_1
      refine (lives_any _).mono ?_
      rintro e w14 ⟨rfl, hk⟩
      replace B_x : Hd (Blk w14 (w.heap.size) #[.int .i64 x.lo, .int .i64 x.wide, .int .i64 x.sent, .int .i64 x.took, .int .i64 x.since, .int .i64 x.tick, .int .i64 x.drift] 23) := hid (blk_keep B_x.out hk (fun h => h))
      replace B_y : Hd (Blk w14 (w.heap.size + 1) #[.int .i64 y.lo, .int .i64 y.wide, .int .i64 y.sent, .int .i64 y.took, .int .i64 y.since, .int .i64 y.tick, .int .i64 y.drift] 23) := hid (blk_keep B_y.out hk (fun h => h))
      replace B_t : Hd (Blk w14 (w2.heap.size) #[.int .i64 t.lo, .int .i64 t.hi] 25) := hid (blk_keep B_t.out hk (fun h => h))
      replace B_s : Hd (Blk w14 (w4.heap.size) #[.int .i64 s.sent, .int .i64 s.recv, .int .i64 s.tick] 32) := hid (blk_keep B_s.out hk (fun h => h))
      replace B_u : Hd (Blk w14 (w6.heap.size) #[.int .i64 u.sent, .int .i64 u.recv, .int .i64 u.tick] 32) := hid (blk_keep B_u.out hk (fun h => h))
      replace B_a : Hd (Blk w14 (w8.heap.size) #[.int .i64 B.lo, .int .i64 B.hi] 25) := hid (blk_keep B_a.out hk (fun h => h))
      replace B_b : Hd (Blk w14 (w12.heap.size) #[.int .i64 B.lo, .int .i64 B.hi] 25) := hid (blk_keep B_b.out hk (fun h => h))
      replace HK : Hd (Keeps (fun _ => False) w w14) := hid (HK.out.trans hk)
      have z14 := hk.size
      clear hk
      go_wp2
      go_ret
      exact ⟨rfl, HK.out⟩
    · have E1 := hid e1; have E2 := hid e2; clear e1 e2
      rw [E1.out]
      generalize hA : (cor t s nx d).1 = A at *
      have HA := hid hA; clear hA
      have o_t_0 : w8.cell? ⟨w2.heap.size, 0, none⟩ = some (.int .i64 (t.lo)) := blk_cell B_t.out 0
      have o_t_1 : w8.cell? ⟨w2.heap.size, 1, none⟩ = some (.int .i64 (t.hi)) := blk_cell B_t.out 1
      have o_u_0 : w8.cell? ⟨w6.heap.size, 0, none⟩ = some (.int .i64 (u.sent)) := blk_cell B_u.out 0
      have o_u_1 : w8.cell? ⟨w6.heap.size, 1, none⟩ = some (.int .i64 (u.recv)) := blk_cell B_u.out 1
      have o_u_2 : w8.cell? ⟨w6.heap.size, 2, none⟩ = some (.int .i64 (u.tick)) := blk_cell B_u.out 2
      go_upto_region 9 with (fail)
      clear o_t_0 o_t_1 o_u_0 o_u_1 o_u_2
      generalize hW : World.alloc w8 _ = W9
      replace B_x : Hd (Blk W9 (w.heap.size) #[.int .i64 x.lo, .int .i64 x.wide, .int .i64 x.sent, .int .i64 x.took, .int .i64 x.since, .int .i64 x.tick, .int .i64 x.drift] 23) := hid (by rw [← hW]; exact (blk_alloc B_x.out _))
      replace B_y : Hd (Blk W9 (w.heap.size + 1) #[.int .i64 y.lo, .int .i64 y.wide, .int .i64 y.sent, .int .i64 y.took, .int .i64 y.since, .int .i64 y.tick, .int .i64 y.drift] 23) := hid (by rw [← hW]; exact (blk_alloc B_y.out _))
      replace B_t : Hd (Blk W9 (w2.heap.size) #[.int .i64 t.lo, .int .i64 t.hi] 25) := hid (by rw [← hW]; exact (blk_alloc B_t.out _))
      replace B_s : Hd (Blk W9 (w4.heap.size) #[.int .i64 s.sent, .int .i64 s.recv, .int .i64 s.tick] 32) := hid (by rw [← hW]; exact (blk_alloc B_s.out _))
      replace B_u : Hd (Blk W9 (w6.heap.size) #[.int .i64 u.sent, .int .i64 u.recv, .int .i64 u.tick] 32) := hid (by rw [← hW]; exact (blk_alloc B_u.out _))
      have B_a : Hd (Blk W9 (w8.heap.size) #[.int .i64 A.lo, .int .i64 A.hi] 25) := hid (by rw [← hW]; exact (blk_new _ _ _))
      replace HK : Hd (Keeps (fun _ => False) w W9) := hid (by rw [← hW]; exact (Keeps.alloc (HK.out) _))
      have z9 : w8.heap.size + 1 ≤ W9.heap.size := by rw [← hW]; simp
      clear hW
      have o_t_0 : W9.cell? ⟨w2.heap.size, 0, none⟩ = some (.int .i64 (t.lo)) := blk_cell B_t.out 0
      have o_t_1 : W9.cell? ⟨w2.heap.size, 1, none⟩ = some (.int .i64 (t.hi)) := blk_cell B_t.out 1
      have o_u_0 : W9.cell? ⟨w6.heap.size, 0, none⟩ = some (.int .i64 (u.sent)) := blk_cell B_u.out 0
      have o_u_1 : W9.cell? ⟨w6.heap.size, 1, none⟩ = some (.int .i64 (u.recv)) := blk_cell B_u.out 1
      have o_u_2 : W9.cell? ⟨w6.heap.size, 2, none⟩ = some (.int .i64 (u.tick)) := blk_cell B_u.out 2
      go_wp2_with fail
      clear o_t_0 o_t_1 o_u_0 o_u_1 o_u_2
      refine (Correlate_ok t u nx d _ NU.out (by omega) d1 d2).mono ?_
      rintro e w10 ⟨rfl, hk⟩
      replace B_x : Hd (Blk w10 (w.heap.size) #[.int .i64 x.lo, .int .i64 x.wide, .int .i64 x.sent, .int .i64 x.took, .int .i64 x.since, .int .i64 x.tick, .int .i64 x.drift] 23) := hid (blk_keep B_x.out hk (fun h => h))
      replace B_y : Hd (Blk w10 (w.heap.size + 1) #[.int .i64 y.lo, .int .i64 y.wide, .int .i64 y.sent, .int .i64 y.took, .int .i64 y.since, .int .i64 y.tick, .int .i64 y.drift] 23) := hid (blk_keep B_y.out hk (fun h => h))
      replace B_t : Hd (Blk w10 (w2.heap.size) #[.int .i64 t.lo, .int .i64 t.hi] 25) := hid (blk_keep B_t.out hk (fun h => h))
      replace B_s : Hd (Blk w10 (w4.heap.size) #[.int .i64 s.sent, .int .i64 s.recv, .int .i64 s.tick] 32) := hid (blk_keep B_s.out hk (fun h => h))
      replace B_u : Hd (Blk w10 (w6.heap.size) #[.int .i64 u.sent, .int .i64 u.recv, .int .i64 u.tick] 32) := hid (blk_keep B_u.out hk (fun h => h))
      replace B_a : Hd (Blk w10 (w8.heap.size) #[.int .i64 A.lo, .int .i64 A.hi] 25) := hid (blk_keep B_a.out hk (fun h => h))
      replace HK : Hd (Keeps (fun _ => False) w w10) := hid (HK.out.trans hk)
      have z10 := hk.size
      clear hk
      rw [E2.out]
      generalize hB : (cor t u nx d).1 = B at *
      have HB := hid hB; clear hB
      have o_s_0 : w10.cell? ⟨w4.heap.size, 0, none⟩ = some (.int .i64 (s.sent)) := blk_cell B_s.out 0
      have o_s_1 : w10.cell? ⟨w4.heap.size, 1, none⟩ = some (.int .i64 (s.recv)) := blk_cell B_s.out 1
      have o_s_2 : w10.cell? ⟨w4.heap.size, 2, none⟩ = some (.int .i64 (s.tick)) := blk_cell B_s.out 2
      go_upto_region 11 with (fail)
      clear o_s_0 o_s_1 o_s_2
      generalize hW : World.alloc w10 _ = W11
      replace B_x : Hd (Blk W11 (w.heap.size) #[.int .i64 x.lo, .int .i64 x.wide, .int .i64 x.sent, .int .i64 x.took, .int .i64 x.since, .int .i64 x.tick, .int .i64 x.drift] 23) := hid (by rw [← hW]; exact (blk_alloc B_x.out _))
      replace B_y : Hd (Blk W11 (w.heap.size + 1) #[.int .i64 y.lo, .int .i64 y.wide, .int .i64 y.sent, .int .i64 y.took, .int .i64 y.since, .int .i64 y.tick, .int .i64 y.drift] 23) := hid (by rw [← hW]; exact (blk_alloc B_y.out _))
      replace B_t : Hd (Blk W11 (w2.heap.size) #[.int .i64 t.lo, .int .i64 t.hi] 25) := hid (by rw [← hW]; exact (blk_alloc B_t.out _))
      replace B_s : Hd (Blk W11 (w4.heap.size) #[.int .i64 s.sent, .int .i64 s.recv, .int .i64 s.tick] 32) := hid (by rw [← hW]; exact (blk_alloc B_s.out _))
      replace B_u : Hd (Blk W11 (w6.heap.size) #[.int .i64 u.sent, .int .i64 u.recv, .int .i64 u.tick] 32) := hid (by rw [← hW]; exact (blk_alloc B_u.out _))
      replace B_a : Hd (Blk W11 (w8.heap.size) #[.int .i64 A.lo, .int .i64 A.hi] 25) := hid (by rw [← hW]; exact (blk_alloc B_a.out _))
      have B_b : Hd (Blk W11 (w10.heap.size) #[.int .i64 B.lo, .int .i64 B.hi] 25) := hid (by rw [← hW]; exact (blk_new _ _ _))
      replace HK : Hd (Keeps (fun _ => False) w W11) := hid (by rw [← hW]; exact (Keeps.alloc (HK.out) _))
      have z11 : w10.heap.size + 1 ≤ W11.heap.size := by rw [← hW]; simp
      clear hW
      have o_b_0 : W11.cell? ⟨w10.heap.size, 0, none⟩ = some (.int .i64 (B.lo)) := blk_cell B_b.out 0
      have o_b_1 : W11.cell? ⟨w10.heap.size, 1, none⟩ = some (.int .i64 (B.hi)) := blk_cell B_b.out 1
      have o_s_0 : W11.cell? ⟨w4.heap.size, 0, none⟩ = some (.int .i64 (s.sent)) := blk_cell B_s.out 0
      have o_s_1 : W11.cell? ⟨w4.heap.size, 1, none⟩ = some (.int .i64 (s.recv)) := blk_cell B_s.out 1
      have o_s_2 : W11.cell? ⟨w4.heap.size, 2, none⟩ = some (.int .i64 (s.tick)) := blk_cell B_s.out 2
      go_wp2_with fail
      clear o_b_0 o_b_1 o_s_0 o_s_1 o_s_2
      refine (Correlate_ok B s nx d _ NS.out (by omega) d1 d2).mono ?_
      rintro e w12 ⟨rfl, hk⟩
      replace B_x : Hd (Blk w12 (w.heap.size) #[.int .i64 x.lo, .int .i64 x.wide, .int .i64 x.sent, .int .i64 x.took, .int .i64 x.since, .int .i64 x.tick, .int .i64 x.drift] 23) := hid (blk_keep B_x.out hk (fun h => h))
      replace B_y : Hd (Blk w12 (w.heap.size + 1) #[.int .i64 y.lo, .int .i64 y.wide, .int .i64 y.sent, .int .i64 y.took, .int .i64 y.since, .int .i64 y.tick, .int .i64 y.drift] 23) := hid (blk_keep B_y.out hk (fun h => h))
      replace B_t : Hd (Blk w12 (w2.heap.size) #[.int .i64 t.lo, .int .i64 t.hi] 25) := hid (blk_keep B_t.out hk (fun h => h))
      replace B_s : Hd (Blk w12 (w4.heap.size) #[.int .i64 s.sent, .int .i64 s.recv, .int .i64 s.tick] 32) := hid (blk_keep B_s.out hk (fun h => h))
      replace B_u : Hd (Blk w12 (w6.heap.size) #[.int .i64 u.sent, .int .i64 u.recv, .int .i64 u.tick] 32) := hid (blk_keep B_u.out hk (fun h => h))
      replace B_a : Hd (Blk w12 (w8.heap.size) #[.int .i64 A.lo, .int .i64 A.hi] 25) := hid (blk_keep B_a.out hk (fun h => h))
      replace B_b : Hd (Blk w12 (w10.heap.size) #[.int .i64 B.lo, .int .i64 B.hi] 25) := hid (blk_keep B_b.out hk (fun h => h))
      replace HK : Hd (Keeps (fun _ => False) w w12) := hid (HK.out.trans hk)
      have z12 := hk.size
      clear hk
      have HF : Hd (cor B s nx d = (A, 22)) := hid (by have h := HC.out; unfold cor2 at h; rw [HA.out, HB.out] at h; rw [if_neg (by rw [E1.out]; decide)] at h; rw [if_pos E2.out] at h; rw [← h, ← HA.out, ← E1.out])
      rw [HF.out]
      have o_a_0 : w12.cell? ⟨w8.heap.size, 0, none⟩ = some (.int .i64 (A.lo)) := blk_cell B_a.out 0
      have o_a_1 : w12.cell? ⟨w8.heap.size, 1, none⟩ = some (.int .i64 (A.hi)) := blk_cell B_a.out 1
      have o_b_0 : w12.cell? ⟨w10.heap.size, 0, none⟩ = some (.int .i64 (B.lo)) := blk_cell B_b.out 0
      have o_b_1 : w12.cell? ⟨w10.heap.size, 1, none⟩ = some (.int .i64 (B.hi)) := blk_cell B_b.out 1
      have f_b_0 : w12.frozen? ⟨w10.heap.size, 0, none⟩ = false := blk_free B_b.out 0
      have f_b_1 : w12.frozen? ⟨w10.heap.size, 1, none⟩ = false := blk_free B_b.out 1
      go_upto_region 12 with (fail)
      obtain ⟨KF, F2⟩ := fin2 HK.out (b := w10.heap.size) (by omega) B_b.out (.int .i64 A.lo) (.int .i64 A.hi)
      clear o_a_0 o_a_1 o_b_0 o_b_1 f_b_0 f_b_1
      generalize hW : World.setCell (World.setCell w12 _ _) _ _ = W13 at *
      replace B_a : Hd (Blk W13 (w8.heap.size) #[.int .i64 A.lo, .int .i64 A.hi] 25) := hid (by rw [← hW]; exact blk_other (blk_other B_a.out (by omega) _ _) (by omega) _ _)
      replace B_b : Hd (Blk W13 (w10.heap.size) #[.int .i64 A.lo, .int .i64 A.hi] 25) := hid F2
      replace HK := hid KF
      clear hW F2 KF
      have o_a_0 : W13.cell? ⟨w8.heap.size, 0, none⟩ = some (.int .i64 (A.lo)) := blk_cell B_a.out 0
      have o_a_1 : W13.cell? ⟨w8.heap.size, 1, none⟩ = some (.int .i64 (A.hi)) := blk_cell B_a.out 1
      have o_b_0 : W13.cell? ⟨w10.heap.size, 0, none⟩ = some (.int .i64 (A.lo)) := blk_cell B_b.out 0
      have o_b_1 : W13.cell? ⟨w10.heap.size, 1, none⟩ = some (.int .i64 (A.hi)) := blk_cell B_b.out 1
      go_wp2_with fail
      clear o_a_0 o_a_1 o_b_0 o_b_1
      refine (lives_any _).mono ?_
      rintro e w14 ⟨rfl, hk⟩
      replace B_a : Hd (Blk w14 (w8.heap.size) #[.int .i64 A.lo, .int .i64 A.hi] 25) := hid (blk_keep B_a.out hk (fun h => h))
      replace B_b : Hd (Blk w14 (w10.heap.size) #[.int .i64 A.lo, .int .i64 A.hi] 25) := hid (blk_keep B_b.out hk (fun h => h))
      replace HK : Hd (Keeps (fun _ => False) w w14) := hid (HK.out.trans hk)
      have z14 := hk.size
      clear hk
      go_wp2
      go_ret
      exact ⟨rfl, HK.out⟩
    · have E1 := hid e1; have E2 := hid e2; clear e1 e2
      rw [E1.out]
      generalize hA : (cor t s nx d).1 = A at *
      have HA := hid hA; clear hA
      have o_t_0 : w8.cell? ⟨w2.heap.size, 0, none⟩ = some (.int .i64 (t.lo)) := blk_cell B_t.out 0
      have o_t_1 : w8.cell? ⟨w2.heap.size, 1, none⟩ = some (.int .i64 (t.hi)) := blk_cell B_t.out 1
      have o_u_0 : w8.cell? ⟨w6.heap.size, 0, none⟩ = some (.int .i64 (u.sent)) := blk_cell B_u.out 0
      have o_u_1 : w8.cell? ⟨w6.heap.size, 1, none⟩ = some (.int .i64 (u.recv)) := blk_cell B_u.out 1
      have o_u_2 : w8.cell? ⟨w6.heap.size, 2, none⟩ = some (.int .i64 (u.tick)) := blk_cell B_u.out 2
      go_upto_region 9 with (fail)
      clear o_t_0 o_t_1 o_u_0 o_u_1 o_u_2
      generalize hW : World.alloc w8 _ = W9
      replace B_x : Hd (Blk W9 (w.heap.size) #[.int .i64 x.lo, .int .i64 x.wide, .int .i64 x.sent, .int .i64 x.took, .int .i64 x.since, .int .i64 x.tick, .int .i64 x.drift] 23) := hid (by rw [← hW]; exact (blk_alloc B_x.out _))
      replace B_y : Hd (Blk W9 (w.heap.size + 1) #[.int .i64 y.lo, .int .i64 y.wide, .int .i64 y.sent, .int .i64 y.took, .int .i64 y.since, .int .i64 y.tick, .int .i64 y.drift] 23) := hid (by rw [← hW]; exact (blk_alloc B_y.out _))
      replace B_t : Hd (Blk W9 (w2.heap.size) #[.int .i64 t.lo, .int .i64 t.hi] 25) := hid (by rw [← hW]; exact (blk_alloc B_t.out _))
      replace B_s : Hd (Blk W9 (w4.heap.size) #[.int .i64 s.sent, .int .i64 s.recv, .int .i64 s.tick] 32) := hid (by rw [← hW]; exact (blk_alloc B_s.out _))
      replace B_u : Hd (Blk W9 (w6.heap.size) #[.int .i64 u.sent, .int .i64 u.recv, .int .i64 u.tick] 32) := hid (by rw [← hW]; exact (blk_alloc B_u.out _))
      have B_a : Hd (Blk W9 (w8.heap.size) #[.int .i64 A.lo, .int .i64 A.hi] 25) := hid (by rw [← hW]; exact (blk_new _ _ _))
      replace HK : Hd (Keeps (fun _ => False) w W9) := hid (by rw [← hW]; exact (Keeps.alloc (HK.out) _))
      have z9 : w8.heap.size + 1 ≤ W9.heap.size := by rw [← hW]; simp
      clear hW
      have o_t_0 : W9.cell? ⟨w2.heap.size, 0, none⟩ = some (.int .i64 (t.lo)) := blk_cell B_t.out 0
      have o_t_1 : W9.cell? ⟨w2.heap.size, 1, none⟩ = some (.int .i64 (t.hi)) := blk_cell B_t.out 1
      have o_u_0 : W9.cell? ⟨w6.heap.size, 0, none⟩ = some (.int .i64 (u.sent)) := blk_cell B_u.out 0
      have o_u_1 : W9.cell? ⟨w6.heap.size, 1, none⟩ = some (.int .i64 (u.recv)) := blk_cell B_u.out 1
      have o_u_2 : W9.cell? ⟨w6.heap.size, 2, none⟩ = some (.int .i64 (u.tick)) := blk_cell B_u.out 2
      go_wp2_with fail
      clear o_t_0 o_t_1 o_u_0 o_u_1 o_u_2
      refine (Correlate_ok t u nx d _ NU.out (by omega) d1 d2).mono ?_
      rintro e w10 ⟨rfl, hk⟩
      replace B_x : Hd (Blk w10 (w.heap.size) #[.int .i64 x.lo, .int .i64 x.wide, .int .i64 x.sent, .int .i64 x.took, .int .i64 x.since, .int .i64 x.tick, .int .i64 x.drift] 23) := hid (blk_keep B_x.out hk (fun h => h))
      replace B_y : Hd (Blk w10 (w.heap.size + 1) #[.int .i64 y.lo, .int .i64 y.wide, .int .i64 y.sent, .int .i64 y.took, .int .i64 y.since, .int .i64 y.tick, .int .i64 y.drift] 23) := hid (blk_keep B_y.out hk (fun h => h))
      replace B_t : Hd (Blk w10 (w2.heap.size) #[.int .i64 t.lo, .int .i64 t.hi] 25) := hid (blk_keep B_t.out hk (fun h => h))
      replace B_s : Hd (Blk w10 (w4.heap.size) #[.int .i64 s.sent, .int .i64 s.recv, .int .i64 s.tick] 32) := hid (blk_keep B_s.out hk (fun h => h))
      replace B_u : Hd (Blk w10 (w6.heap.size) #[.int .i64 u.sent, .int .i64 u.recv, .int .i64 u.tick] 32) := hid (blk_keep B_u.out hk (fun h => h))
      replace B_a : Hd (Blk w10 (w8.heap.size) #[.int .i64 A.lo, .int .i64 A.hi] 25) := hid (blk_keep B_a.out hk (fun h => h))
      replace HK : Hd (Keeps (fun _ => False) w w10) := hid (HK.out.trans hk)
      have z10 := hk.size
      clear hk
      rw [E2.out]
      generalize hB : (cor t u nx d).1 = B at *
      have HB := hid hB; clear hB
      have HF : Hd (B = A) := hid (by have h := HC.out; unfold cor2 at h; rw [HA.out, HB.out] at h; rw [if_neg (by rw [E1.out]; decide), if_neg (by rw [E2.out]; decide)] at h; rw [← HA.out, ← HB.out, h])
      rw [HF.out]
      go_upto_region 12 with (fail)
      generalize hW : World.alloc w10 _ = W11
      replace B_x : Hd (Blk W11 (w.heap.size) #[.int .i64 x.lo, .int .i64 x.wide, .int .i64 x.sent, .int .i64 x.took, .int .i64 x.since, .int .i64 x.tick, .int .i64 x.drift] 23) := hid (by rw [← hW]; exact (blk_alloc B_x.out _))
      replace B_y : Hd (Blk W11 (w.heap.size + 1) #[.int .i64 y.lo, .int .i64 y.wide, .int .i64 y.sent, .int .i64 y.took, .int .i64 y.since, .int .i64 y.tick, .int .i64 y.drift] 23) := hid (by rw [← hW]; exact (blk_alloc B_y.out _))
      replace B_t : Hd (Blk W11 (w2.heap.size) #[.int .i64 t.lo, .int .i64 t.hi] 25) := hid (by rw [← hW]; exact (blk_alloc B_t.out _))
      replace B_s : Hd (Blk W11 (w4.heap.size) #[.int .i64 s.sent, .int .i64 s.recv, .int .i64 s.tick] 32) := hid (by rw [← hW]; exact (blk_alloc B_s.out _))
      replace B_u : Hd (Blk W11 (w6.heap.size) #[.int .i64 u.sent, .int .i64 u.recv, .int .i64 u.tick] 32) := hid (by rw [← hW]; exact (blk_alloc B_u.out _))
      replace B_a : Hd (Blk W11 (w8.heap.size) #[.int .i64 A.lo, .int .i64 A.hi] 25) := hid (by rw [← hW]; exact (blk_alloc B_a.out _))
      have B_b : Hd (Blk W11 (w10.heap.size) #[.int .i64 A.lo, .int .i64 A.hi] 25) := hid (by rw [← hW]; exact (blk_new _ _ _))
      replace HK : Hd (Keeps (fun _ => False) w W11) := hid (by rw [← hW]; exact (Keeps.alloc (HK.out) _))
      have z11 : w10.heap.size + 1 ≤ W11.heap.size := by rw [← hW]; simp
      clear hW
      have o_a_0 : W11.cell? ⟨w8.heap.size, 0, none⟩ = some (.int .i64 (A.lo)) := blk_cell B_a.out 0
      have o_a_1 : W11.cell? ⟨w8.heap.size, 1, none⟩ = some (.int .i64 (A.hi)) := blk_cell B_a.out 1
      have o_b_0 : W11.cell? ⟨w10.heap.size, 0, none⟩ = some (.int .i64 (A.lo)) := blk_cell B_b.out 0
      have o_b_1 : W11.cell? ⟨w10.heap.size, 1, none⟩ = some (.int .i64 (A.hi)) := blk_cell B_b.out 1
      go_wp2_with fail
      clear o_a_0 o_a_1 o_b_0 o_b_1
      refine (lives_any _).mono ?_
      rintro e w12 ⟨rfl, hk⟩
      replace B_x : Hd (Blk w12 (w.heap.size) #[.int .i64 x.lo, .int .i64 x.wide, .int .i64 x.sent, .int .i64 x.took, .int .i64 x.since, .int .i64 x.tick, .int .i64 x.drift] 23) := hid (blk_keep B_x.out hk (fun h => h))
      replace B_y : Hd (Blk w12 (w.heap.size + 1) #[.int .i64 y.lo, .int .i64 y.wide, .int .i64 y.sent, .int .i64 y.took, .int .i64 y.since, .int .i64 y.tick, .int .i64 y.drift] 23) := hid (blk_keep B_y.out hk (fun h => h))
      replace B_t : Hd (Blk w12 (w2.heap.size) #[.int .i64 t.lo, .int .i64 t.hi] 25) := hid (blk_keep B_t.out hk (fun h => h))
      replace B_s : Hd (Blk w12 (w4.heap.size) #[.int .i64 s.sent, .int .i64 s.recv, .int .i64 s.tick] 32) := hid (blk_keep B_s.out hk (fun h => h))
      replace B_u : Hd (Blk w12 (w6.heap.size) #[.int .i64 u.sent, .int .i64 u.recv, .int .i64 u.tick] 32) := hid (blk_keep B_u.out hk (fun h => h))
      replace B_a : Hd (Blk w12 (w8.heap.size) #[.int .i64 A.lo, .int .i64 A.hi] 25) := hid (blk_keep B_a.out hk (fun h => h))
      replace B_b : Hd (Blk w12 (w10.heap.size) #[.int .i64 A.lo, .int .i64 A.hi] 25) := hid (blk_keep B_b.out hk (fun h => h))
      replace HK : Hd (Keeps (fun _ => False) w w12) := hid (HK.out.trans hk)
      have z12 := hk.size
      clear hk
      go_wp2
      go_ret
      exact ⟨rfl, HK.out⟩

end Go.Proofs.Ytjdalhnffhoknaa
