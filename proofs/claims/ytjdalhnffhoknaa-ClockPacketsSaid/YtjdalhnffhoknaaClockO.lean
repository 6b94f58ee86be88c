/- The walks of the laws ClockSplits and ClockCorrelates. -/
import Derived.Test.YtjdalhnffhoknaaClockK
import Derived.Deep.DrawnRows
import Derived.Deep.Cut
import Derived.Deep.CutRange
namespace Go.Proofs.Ytjdalhnffhoknaa
open Go.RowKit
attribute [local go_sem ↓] Go.wp_at_zero Go.wp_at_succ

def CutN (W : World) (cs : Array Value) (T : TypeId) (u : Value) (wx : World) : Prop := ∃ bx : Nat, u = .pointer (some ⟨bx, 0, none⟩) ∧ Hd (Blk wx bx cs T) ∧ Hd (Keeps (fun _ => False) W wx)
theorem cutN_new {W w1 : World} {cs : Array Value} {T : TypeId} (hk : Keeps (fun _ => False) W w1) : CutN W cs T (.pointer (some ⟨w1.heap.size, 0, none⟩)) (w1.alloc (.cells cs T)) := ⟨_, rfl, hid (blk_new _ _ _), hid (hk.alloc _)⟩
theorem cutN_old {W w1 : World} {b : Nat} {c0 c1 z0 z1 : Value} {T : TypeId} (hk : Keeps (fun _ => False) W w1) (hz : W.heap.size ≤ b) (hb : Hd (Blk w1 b #[z0, z1] T)) :
    CutN W #[c0, c1] T (.pointer (some ⟨b, 0, none⟩)) ((w1.setCell ⟨b, 0, none⟩ c0).setCell ⟨b, 1, none⟩ c1) := ⟨_, rfl, hid (blk_set (blk_set hb.out 0 _) 1 _), hid ((hk.setCell (.inr hz) _).setCell (.inr hz) _)⟩
theorem cutN_drew {W wx : World} {cs : Array Value} {T : TypeId} {u : Value} (h : CutN W cs T u wx) : CutN W cs T u wx.drew := by
  obtain ⟨b, h1, h2, h3⟩ := h; exact ⟨b, h1, hid (blk_drew h2.out), hid h3.out.drew⟩
theorem iv_keep {k : Nat} {w1 w2 : World} (h : Hd (Blk w1 k #[.int .i64 0, .int .i64 0] 25)) (hk : Keeps (fun _ => False) w1 w2) : IvNew k w2 := by
  have HG := blk_keep h.out hk (fun h => h)
  exact ⟨hid HG, blk_free HG 0, blk_free HG 1, blk_cell HG 0, blk_cell HG 1⟩
theorem Correlate_all (t : Iv) (s : Sm) (now d : Int) (w : World) (hn : now ≤ 1000000000000) (h6 : 1 ≤ d) (h7 : d ≤ 1000000000) :
    Calls Try.prog 21 #[.agg #[.int .i64 t.lo, .int .i64 t.hi], .agg #[.int .i64 s.sent, .int .i64 s.recv, .int .i64 s.tick], .int .i64 now, .int .i64 d] w fun e w' => RetCor (cor t s now d) w e w' := by
  by_cases hb : s.bad now
  · exact Correlate_bad t s now d w hb
  · exact Correlate_ok t s now d w hb hn h6 h7
theorem RCorrelate_all (t : Iv) (s : Sm) (now d : Int) (w : World) (hn : now ≤ 1000000000000) (h6 : 1 ≤ d) (h7 : d ≤ 1000000000) :
    Calls Try.prog 22 #[.agg #[.int .i64 t.lo, .int .i64 t.hi], .agg #[.int .i64 s.sent, .int .i64 s.recv, .int .i64 s.tick], .int .i64 now, .int .i64 d] w fun e w' => RetCor (cor t s now d) w e w' := by
  by_cases hb : s.bad now
  · exact RCorrelate_bad t s now d w hb
  · exact RCorrelate_ok t s now d w hb hn h6 h7

set_option maxRecDepth 100000 in set_option maxHeartbeats 1000000 in
theorem splits_any (x : Case) (w : World) (hx : x.ok) :
    Calls Try.prog 10 #[.agg #[.int .i64 x.lo, .int .i64 x.wide, .int .i64 x.sent, .int .i64 x.took, .int .i64 x.since, .int .i64 x.tick, .int .i64 x.drift]] w fun e w' => e = .returned (.bool true) ∧ Keeps (fun _ => False) w w' := by
  have HX := hid hx
  obtain ⟨_, _, _, ⟨k1, k2⟩, ⟨n1, n2⟩, _, ⟨d1, d2⟩⟩ := hx
  have K1 := hid k1; have K2 := hid k2; have D1 := hid d1; have D2 := hid d2; have N1 := hid n1; have N2 := hid n2
  clear k1 k2 d1 d2 n1 n2
  obtain ⟨p0, p1⟩ := around_b x.took 274877906944 (by omega)
  obtain ⟨q0, q1⟩ := around_b x.since 274877906944 (by omega)
  obtain ⟨r0, r1⟩ := around_b x.drift 1000000 (by omega)
  obtain ⟨t0, t1, t2⟩ := timeIv_b x.lo x.wide
  have dd : 1 ≤ 1 + around x.drift 1000000 := by omega
  have de : 1 + around x.drift 1000000 ≤ 1000000000 := by omega
  clear r0 r1
  have HSP := hid (adv_split (timeIv x.lo x.wide) (around x.took 274877906944) (around x.since 274877906944) (1 + around x.drift 1000000) t0 t1 t2 p0 q0 dd)
  go_enter Try.func10, Try.ntmps10
  go_upto_region 1 with (fail)
  generalize hW : World.alloc w _ = W1
  have B_x : Hd (Blk W1 (w.heap.size) #[.int .i64 x.lo, .int .i64 x.wide, .int .i64 x.sent, .int .i64 x.took, .int .i64 x.since, .int .i64 x.tick, .int .i64 x.drift] 23) := hid (by rw [← hW]; exact (blk_new _ _ _))
  have HK : Hd (Keeps (fun _ => False) w W1) := hid (by rw [← hW]; exact (Keeps.alloc (Keeps.refl _ _) _))
  have z1 : w.heap.size + 1 ≤ W1.heap.size := by rw [← hW]; simp
  clear hW
  have o_x_0 : W1.cell? ⟨w.heap.size, 0, none⟩ = some (.int .i64 (x.lo)) := blk_cell B_x.out 0
  have o_x_1 : W1.cell? ⟨w.heap.size, 1, none⟩ = some (.int .i64 (x.wide)) := blk_cell B_x.out 1
  have o_x_2 : W1.cell? ⟨w.heap.size, 2, none⟩ = some (.int .i64 (x.sent)) := blk_cell B_x.out 2
  have o_x_3 : W1.cell? ⟨w.heap.size, 3, none⟩ = some (.int .i64 (x.took)) := blk_cell B_x.out 3
  have o_x_4 : W1.cell? ⟨w.heap.size, 4, none⟩ = some (.int .i64 (x.since)) := blk_cell B_x.out 4
  have o_x_5 : W1.cell? ⟨w.heap.size, 5, none⟩ = some (.int .i64 (x.tick)) := blk_cell B_x.out 5
  have o_x_6 : W1.cell? ⟨w.heap.size, 6, none⟩ = some (.int .i64 (x.drift)) := blk_cell B_x.out 6
  go_wp2_with fail
  clear o_x_0 o_x_1 o_x_2 o_x_3 o_x_4 o_x_5 o_x_6
  refine (interval_any x _ HX.out).mono ?_
  rintro e w2 ⟨rfl, hk⟩
  replace B_x : Hd (Blk w2 (w.heap.size) #[.int .i64 x.lo, .int .i64 x.wide, .int .i64 x.sent, .int .i64 x.took, .int .i64 x.since, .int .i64 x.tick, .int .i64 x.drift] 23) := hid (blk_keep B_x.out hk (fun h => h))
  replace HK : Hd (Keeps (fun _ => False) w w2) := hid (HK.out.trans hk)
  have z2 := hk.size
  clear hk
  generalize timeIv x.lo x.wide = t at *
  go_upto_region 2 with (fail)
  generalize hW : World.alloc w2 _ = W3
  replace B_x : Hd (Blk W3 (w.heap.size) #[.int .i64 x.lo, .int .i64 x.wide, .int .i64 x.sent, .int .i64 x.took, .int .i64 x.since, .int .i64 x.tick, .int .i64 x.drift] 23) := hid (by rw [← hW]; exact (blk_alloc B_x.out _))
  have B_t : Hd (Blk W3 (w2.heap.size) #[.int .i64 t.lo, .int .i64 t.hi] 25) := hid (by rw [← hW]; exact (blk_new _ _ _))
  replace HK : Hd (Keeps (fun _ => False) w W3) := hid (by rw [← hW]; exact (Keeps.alloc (HK.out) _))
  have z3 : w2.heap.size + 1 ≤ W3.heap.size := by rw [← hW]; simp
  clear hW
  have o_x_3 : W3.cell? ⟨w.heap.size, 3, none⟩ = some (.int .i64 (x.took)) := blk_cell B_x.out 3
  have o_x_4 : W3.cell? ⟨w.heap.size, 4, none⟩ = some (.int .i64 (x.since)) := blk_cell B_x.out 4
  go_wp2_with fail
  refine (counted_any _ _ K1.out K2.out).mono ?_
  rintro e wx ⟨rfl, rfl⟩
  go_wp2_with fail
  refine (counted_any _ _ N1.out N2.out).mono ?_
  rintro e wx ⟨rfl, rfl⟩
  clear o_x_3 o_x_4
  have HD0 := hid (rfl : 1 + around x.drift 1000000 = 1 + around x.drift 1000000)
  generalize around x.took 274877906944 = a at *
  generalize around x.since 274877906944 = b at *
  obtain ⟨v0, v1⟩ := adv_lo t a (1 + around x.drift 1000000)
  obtain ⟨v2, v3⟩ := adv_hi t a (1 + around x.drift 1000000)
  have a9 : a ≤ 1000000000000 := by omega
  have b9 : b ≤ 1000000000000 := by omega
  have tl : t.lo ≤ 1000000 := by omega
  have th : 0 ≤ t.hi := by omega
  go_upto_region 4 with (fail)
  go_cut [6] from 16 to 26 (fun u6 wx => CutN W3 #[.int .i64 ((adv (adv t a (1 + around x.drift 1000000)) b (1 + around x.drift 1000000)).lo), .int .i64 ((adv (adv t a (1 + around x.drift 1000000)) b (1 + around x.drift 1000000)).hi)] 25 u6 wx)
  case first =>
    have o_t_0 : W3.cell? ⟨w2.heap.size, 0, none⟩ = some (.int .i64 (t.lo)) := blk_cell B_t.out 0
    have o_t_1 : W3.cell? ⟨w2.heap.size, 1, none⟩ = some (.int .i64 (t.hi)) := blk_cell B_t.out 1
    have o_x_6 : W3.cell? ⟨w.heap.size, 6, none⟩ = some (.int .i64 (x.drift)) := blk_cell B_x.out 6
    have m_0 := World.new_ne W3 _ o_t_0
    have m_1 := World.new_ne W3 _ o_t_1
    have m_2 := World.new_ne W3 _ o_x_6
    go_region_held3 (fun w' => w'.cell? ⟨w2.heap.size, 0, none⟩ = some (.int .i64 (t.lo)) ∧ w'.cell? ⟨w2.heap.size, 1, none⟩ = some (.int .i64 (t.hi)) ∧ w'.cell? ⟨w.heap.size, 6, none⟩ = some (.int .i64 (x.drift))) (first | go_keep | (go_split_ands; refine ⟨?_, ?_, ?_⟩ <;> assumption) | assumption) (first | (go_at_call 17; refine (drift_any _ _ D1.out D2.out).mono ?_; rintro e w1 ⟨rfl, rfl⟩) | (go_at_call 15; (with_reducible refine (Advance_any t a (1 + around x.drift 1000000) _ t0 tl th t2 p0 a9 dd de).mono ?_); rintro e wz ⟨rfl, hk⟩; have hkk : Keeps (fun _ => False) W3 wz := Keeps.trans (by repeat (first | (with_reducible assumption) | (with_reducible exact Keeps.refl _ _) | (with_reducible apply Keeps.drewN) | (with_reducible apply Keeps.drew) | (with_reducible apply Keeps.alloc) | refine Keeps.setCell ?_ (by first | (simp; done) | (simp; omega)) _)) hk; have s_0 := keep_cell hkk (fun h => h) o_t_0; have n_0 := World.new_ne wz _ s_0; have s_1 := keep_cell hkk (fun h => h) o_t_1; have n_1 := World.new_ne wz _ s_1; have s_2 := keep_cell hkk (fun h => h) o_x_6; have n_2 := World.new_ne wz _ s_2; (try ((have HN := iv_new W3 _ wz hk rfl); obtain ⟨HNB, F0, F1, G0, G1⟩ := HN)); have zw := hkk.size; replace hkk := hid hkk; replace hk := hid hk) | (go_at_call 15; (with_reducible refine (Advance_any (adv t a (1 + around x.drift 1000000)) b (1 + around x.drift 1000000) _ v0 v1 v2 v3 q0 b9 dd de).mono ?_); rintro e wy ⟨rfl, hk⟩; have hkk : Keeps (fun _ => False) W3 wy := Keeps.trans hkk.out (Keeps.trans (by repeat (first | (with_reducible assumption) | (with_reducible exact Keeps.refl _ _) | (with_reducible apply Keeps.drewN) | (with_reducible apply Keeps.drew) | (with_reducible apply Keeps.alloc) | refine Keeps.setCell ?_ (by first | (simp; done) | (simp; omega)) _)) hk); have s_0 := keep_cell hkk (fun h => h) o_t_0; have n_0 := World.new_ne wy _ s_0; have s_1 := keep_cell hkk (fun h => h) o_t_1; have n_1 := World.new_ne wy _ s_1; have s_2 := keep_cell hkk (fun h => h) o_x_6; have n_2 := World.new_ne wy _ s_2; (try ((have HN := iv_keep HNB hk); obtain ⟨HNB, F0, F1, G0, G1⟩ := HN)); (try ((have HN := iv_new wz _ wy hk rfl); obtain ⟨HNB, F0, F1, G0, G1⟩ := HN)); replace hkk := hid hkk; replace hk := hid hk))
    all_goals
      go_wp2_with fail
      go_meet
      first | exact cutN_new hkk.out | exact cutN_old hkk.out (Nat.le_refl _) HNB | exact cutN_old hkk.out zw HNB | exact cutN_drew (cutN_new hkk.out) | exact cutN_drew (cutN_old hkk.out (Nat.le_refl _) HNB)
  case rest =>
    obtain ⟨b_two, rfl, B_two, hk⟩ := hcut
    replace hk := hk.out
    generalize wc = wq4 at *
    replace B_x : Hd (Blk wq4 (w.heap.size) #[.int .i64 x.lo, .int .i64 x.wide, .int .i64 x.sent, .int .i64 x.took, .int .i64 x.since, .int .i64 x.tick, .int .i64 x.drift] 23) := hid (blk_keep B_x.out hk (fun h => h))
    replace B_t : Hd (Blk wq4 (w2.heap.size) #[.int .i64 t.lo, .int .i64 t.hi] 25) := hid (blk_keep B_t.out hk (fun h => h))
    replace HK : Hd (Keeps (fun _ => False) w wq4) := hid (HK.out.trans hk)
    have z4 := hk.size
    clear hk
    have c9 : a + b ≤ 1000000000000 := by omega
    have c0 : 0 ≤ a + b := by omega
    go_upto_region 5 with (fail)
    go_cut [7] from 27 to 34 (fun u7 wx => CutN wq4 #[.int .i64 ((adv t (a + b) (1 + around x.drift 1000000)).lo), .int .i64 ((adv t (a + b) (1 + around x.drift 1000000)).hi)] 25 u7 wx)
    case first =>
      have w1 : IntKind.i64.wrap (a + b) = a + b := IntWalk.i64_in _ (by omega)
      have o_t_0 : wq4.cell? ⟨w2.heap.size, 0, none⟩ = some (.int .i64 (t.lo)) := blk_cell B_t.out 0
      have o_t_1 : wq4.cell? ⟨w2.heap.size, 1, none⟩ = some (.int .i64 (t.hi)) := blk_cell B_t.out 1
      have o_x_6 : wq4.cell? ⟨w.heap.size, 6, none⟩ = some (.int .i64 (x.drift)) := blk_cell B_x.out 6
      have m_0 := World.new_ne wq4 _ o_t_0
      have m_1 := World.new_ne wq4 _ o_t_1
      have m_2 := World.new_ne wq4 _ o_x_6
      go_region_held3 (fun w' => w'.cell? ⟨w2.heap.size, 0, none⟩ = some (.int .i64 (t.lo)) ∧ w'.cell? ⟨w2.heap.size, 1, none⟩ = some (.int .i64 (t.hi)) ∧ w'.cell? ⟨w.heap.size, 6, none⟩ = some (.int .i64 (x.drift))) (first | go_keep | (go_split_ands; refine ⟨?_, ?_, ?_⟩ <;> assumption) | assumption) (first | (go_at_call 17; refine (drift_any _ _ D1.out D2.out).mono ?_; rintro e w1 ⟨rfl, rfl⟩) | (go_at_call 15; (with_reducible refine (Advance_any t (a + b) (1 + around x.drift 1000000) _ t0 tl th t2 c0 c9 dd de).mono ?_); rintro e wz ⟨rfl, hk⟩; have hkk : Keeps (fun _ => False) wq4 wz := Keeps.trans (by repeat (first | (with_reducible assumption) | (with_reducible exact Keeps.refl _ _) | (with_reducible apply Keeps.drewN) | (with_reducible apply Keeps.drew) | (with_reducible apply Keeps.alloc) | refine Keeps.setCell ?_ (by first | (simp; done) | (simp; omega)) _)) hk; have s_0 := keep_cell hkk (fun h => h) o_t_0; have n_0 := World.new_ne wz _ s_0; have s_1 := keep_cell hkk (fun h => h) o_t_1; have n_1 := World.new_ne wz _ s_1; have s_2 := keep_cell hkk (fun h => h) o_x_6; have n_2 := World.new_ne wz _ s_2; (try ((have HN := iv_new wq4 _ wz hk rfl); obtain ⟨HNB, F0, F1, G0, G1⟩ := HN)); have zw := hkk.size; replace hkk := hid hkk; replace hk := hid hk))
      all_goals
        go_wp2_with fail
        go_meet
        first | exact cutN_new hkk.out | exact cutN_old hkk.out (Nat.le_refl _) HNB | exact cutN_old hkk.out zw HNB | exact cutN_drew (cutN_new hkk.out) | exact cutN_drew (cutN_old hkk.out (Nat.le_refl _) HNB)
    case rest =>
      obtain ⟨b_one, rfl, B_one, hk⟩ := hcut
      replace hk := hk.out
      generalize wc = wq5 at *
      replace B_x : Hd (Blk wq5 (w.heap.size) #[.int .i64 x.lo, .int .i64 x.wide, .int .i64 x.sent, .int .i64 x.took, .int .i64 x.since, .int .i64 x.tick, .int .i64 x.drift] 23) := hid (blk_keep B_x.out hk (fun h => h))
      replace B_t : Hd (Blk wq5 (w2.heap.size) #[.int .i64 t.lo, .int .i64 t.hi] 25) := hid (blk_keep B_t.out hk (fun h => h))
      replace B_two : Hd (Blk wq5 (b_two) #[.int .i64 ((adv (adv t a (1 + around x.drift 1000000)) b (1 + around x.drift 1000000)).lo), .int .i64 ((adv (adv t a (1 + around x.drift 1000000)) b (1 + around x.drift 1000000)).hi)] 25) := hid (blk_keep B_two.out hk (fun h => h))
      replace HK : Hd (Keeps (fun _ => False) w wq5) := hid (HK.out.trans hk)
      have z5 := hk.size
      clear hk
      clear v0 v1 v2 v3
      generalize adv (adv t a (1 + around x.drift 1000000)) b (1 + around x.drift 1000000) = two at *
      generalize adv t (a + b) (1 + around x.drift 1000000) = one at *
      obtain ⟨j1, j2, j3⟩ := HSP.out
      have y1 : decide (two.lo ≤ one.lo) = true := by simp; exact j1
      have y2 : decide (one.hi ≤ two.hi) = true := by simp; exact j2
      have y3 : decide (one.lo ≤ one.hi) = true := by simp; exact j3
      have o_two_0 : wq5.cell? ⟨b_two, 0, none⟩ = some (.int .i64 (two.lo)) := blk_cell B_two.out 0
      have o_two_1 : wq5.cell? ⟨b_two, 1, none⟩ = some (.int .i64 (two.hi)) := blk_cell B_two.out 1
      have o_one_0 : wq5.cell? ⟨b_one, 0, none⟩ = some (.int .i64 (one.lo)) := blk_cell B_one.out 0
      have o_one_1 : wq5.cell? ⟨b_one, 1, none⟩ = some (.int .i64 (one.hi)) := blk_cell B_one.out 1
      go_wp2_with fail
      clear o_two_0 o_two_1 o_one_0 o_one_1
      refine (lives_any _).mono ?_
      rintro e w6 ⟨rfl, hk⟩
      replace B_x : Hd (Blk w6 (w.heap.size) #[.int .i64 x.lo, .int .i64 x.wide, .int .i64 x.sent, .int .i64 x.took, .int .i64 x.since, .int .i64 x.tick, .int .i64 x.drift] 23) := hid (blk_keep B_x.out hk (fun h => h))
      replace B_t : Hd (Blk w6 (w2.heap.size) #[.int .i64 t.lo, .int .i64 t.hi] 25) := hid (blk_keep B_t.out hk (fun h => h))
      replace B_two : Hd (Blk w6 (b_two) #[.int .i64 two.lo, .int .i64 two.hi] 25) := hid (blk_keep B_two.out hk (fun h => h))
      replace B_one : Hd (Blk w6 (b_one) #[.int .i64 one.lo, .int .i64 one.hi] 25) := hid (blk_keep B_one.out hk (fun h => h))
      replace HK : Hd (Keeps (fun _ => False) w w6) := hid (HK.out.trans hk)
      have z6 := hk.size
      clear hk
      go_wp2
      go_ret
      exact ⟨rfl, HK.out⟩

set_option maxRecDepth 100000 in set_option maxHeartbeats 1000000 in
theorem correlates_any (x : Case) (w : World) (hx : x.ok) :
    Calls Try.prog 4 #[.agg #[.int .i64 x.lo, .int .i64 x.wide, .int .i64 x.sent, .int .i64 x.took, .int .i64 x.since, .int .i64 x.tick, .int .i64 x.drift]] w fun e w' => e = .returned (.bool true) ∧ Keeps (fun _ => False) w w' := by
  have HX := hid hx
  obtain ⟨_, _, _, ⟨k1, k2⟩, ⟨n1, n2⟩, _, ⟨d1, d2⟩⟩ := hx
  have K1 := hid k1; have K2 := hid k2; have D1 := hid d1; have D2 := hid d2; have N1 := hid n1; have N2 := hid n2
  clear k1 k2 d1 d2 n1 n2
  obtain ⟨p0, p1⟩ := around_b x.took 274877906944 (by omega)
  obtain ⟨q0, q1⟩ := around_b x.since 274877906944 (by omega)
  obtain ⟨r0, r1⟩ := around_b x.drift 1000000 (by omega)
  obtain ⟨t0, t1, t2⟩ := timeIv_b x.lo x.wide
  have dd : 1 ≤ 1 + around x.drift 1000000 := by omega
  have de : 1 + around x.drift 1000000 ≤ 1000000000 := by omega
  clear r0 r1
  obtain ⟨⟨s0, s1, s2, s3, s4, s5⟩, s6⟩ := x.sm_ok
  clear s0 s1 s2 s3 s4 s5 t0 t1 t2 p0 p1 q0
  have s7 : x.now ≤ 1000000000000 := by omega
  generalize hs : x.sm = s at *
  have HS := hid hs; clear hs
  generalize hn : x.now = nx at *
  have HNX := hid hn; clear hn
  go_enter Try.func4, Try.ntmps4
  go_upto_region 1 with (fail)
  generalize hW : World.alloc w _ = W1
  have B_x : Hd (Blk W1 (w.heap.size) #[.int .i64 x.lo, .int .i64 x.wide, .int .i64 x.sent, .int .i64 x.took, .int .i64 x.since, .int .i64 x.tick, .int .i64 x.drift] 23) := hid (by rw [← hW]; exact (blk_new _ _ _))
  have HK : Hd (Keeps (fun _ => False) w W1) := hid (by rw [← hW]; exact (Keeps.alloc (Keeps.refl _ _) _))
  have z1 : w.heap.size + 1 ≤ W1.heap.size := by rw [← hW]; simp
  clear hW
  have o_x_0 : W1.cell? ⟨w.heap.size, 0, none⟩ = some (.int .i64 (x.lo)) := blk_cell B_x.out 0
  have o_x_1 : W1.cell? ⟨w.heap.size, 1, none⟩ = some (.int .i64 (x.wide)) := blk_cell B_x.out 1
  have o_x_2 : W1.cell? ⟨w.heap.size, 2, none⟩ = some (.int .i64 (x.sent)) := blk_cell B_x.out 2
  have o_x_3 : W1.cell? ⟨w.heap.size, 3, none⟩ = some (.int .i64 (x.took)) := blk_cell B_x.out 3
  have o_x_4 : W1.cell? ⟨w.heap.size, 4, none⟩ = some (.int .i64 (x.since)) := blk_cell B_x.out 4
  have o_x_5 : W1.cell? ⟨w.heap.size, 5, none⟩ = some (.int .i64 (x.tick)) := blk_cell B_x.out 5
  have o_x_6 : W1.cell? ⟨w.heap.size, 6, none⟩ = some (.int .i64 (x.drift)) := blk_cell B_x.out 6
  go_wp2_with fail
  clear o_x_0 o_x_1 o_x_2 o_x_3 o_x_4 o_x_5 o_x_6
  refine (interval_any x _ HX.out).mono ?_
  rintro e w2 ⟨rfl, hk⟩
  replace B_x : Hd (Blk w2 (w.heap.size) #[.int .i64 x.lo, .int .i64 x.wide, .int .i64 x.sent, .int .i64 x.took, .int .i64 x.since, .int .i64 x.tick, .int .i64 x.drift] 23) := hid (blk_keep B_x.out hk (fun h => h))
  replace HK : Hd (Keeps (fun _ => False) w w2) := hid (HK.out.trans hk)
  have z2 := hk.size
  clear hk
  generalize timeIv x.lo x.wide = t at *
  go_upto_region 2 with (fail)
  generalize hW : World.alloc w2 _ = W3
  replace B_x : Hd (Blk W3 (w.heap.size) #[.int .i64 x.lo, .int .i64 x.wide, .int .i64 x.sent, .int .i64 x.took, .int .i64 x.since, .int .i64 x.tick, .int .i64 x.drift] 23) := hid (by rw [← hW]; exact (blk_alloc B_x.out _))
  have B_t : Hd (Blk W3 (w2.heap.size) #[.int .i64 t.lo, .int .i64 t.hi] 25) := hid (by rw [← hW]; exact (blk_new _ _ _))
  replace HK : Hd (Keeps (fun _ => False) w W3) := hid (by rw [← hW]; exact (Keeps.alloc (HK.out) _))
  have z3 : w2.heap.size + 1 ≤ W3.heap.size := by rw [← hW]; simp
  clear hW
  have o_x_0 : W3.cell? ⟨w.heap.size, 0, none⟩ = some (.int .i64 (x.lo)) := blk_cell B_x.out 0
  have o_x_1 : W3.cell? ⟨w.heap.size, 1, none⟩ = some (.int .i64 (x.wide)) := blk_cell B_x.out 1
  have o_x_2 : W3.cell? ⟨w.heap.size, 2, none⟩ = some (.int .i64 (x.sent)) := blk_cell B_x.out 2
  have o_x_3 : W3.cell? ⟨w.heap.size, 3, none⟩ = some (.int .i64 (x.took)) := blk_cell B_x.out 3
  have o_x_4 : W3.cell? ⟨w.heap.size, 4, none⟩ = some (.int .i64 (x.since)) := blk_cell B_x.out 4
  have o_x_5 : W3.cell? ⟨w.heap.size, 5, none⟩ = some (.int .i64 (x.tick)) := blk_cell B_x.out 5
  have o_x_6 : W3.cell? ⟨w.heap.size, 6, none⟩ = some (.int .i64 (x.drift)) := blk_cell B_x.out 6
  go_wp2_with fail
  clear o_x_0 o_x_1 o_x_2 o_x_3 o_x_4 o_x_5 o_x_6
  refine (sample_any x _ HX.out).mono ?_
  rw [HS.out, HNX.out]
  rintro e w4 ⟨rfl, hk⟩
  replace B_x : Hd (Blk w4 (w.heap.size) #[.int .i64 x.lo, .int .i64 x.wide, .int .i64 x.sent, .int .i64 x.took, .int .i64 x.since, .int .i64 x.tick, .int .i64 x.drift] 23) := hid (blk_keep B_x.out hk (fun h => h))
  replace B_t : Hd (Blk w4 (w2.heap.size) #[.int .i64 t.lo, .int .i64 t.hi] 25) := hid (blk_keep B_t.out hk (fun h => h))
  replace HK : Hd (Keeps (fun _ => False) w w4) := hid (HK.out.trans hk)
  have z4 := hk.size
  clear hk
  go_upto_region 3 with (fail)
  generalize hW : World.alloc w4 _ = W5
  replace B_x : Hd (Blk W5 (w.heap.size) #[.int .i64 x.lo, .int .i64 x.wide, .int .i64 x.sent, .int .i64 x.took, .int .i64 x.since, .int .i64 x.tick, .int .i64 x.drift] 23) := hid (by rw [← hW]; exact (blk_alloc B_x.out _))
  replace B_t : Hd (Blk W5 (w2.heap.size) #[.int .i64 t.lo, .int .i64 t.hi] 25) := hid (by rw [← hW]; exact (blk_alloc B_t.out _))
  have B_s : Hd (Blk W5 (w4.heap.size) #[.int .i64 s.sent, .int .i64 s.recv, .int .i64 s.tick] 32) := hid (by rw [← hW]; exact (blk_new _ _ _))
  replace HK : Hd (Keeps (fun _ => False) w W5) := hid (by rw [← hW]; exact (Keeps.alloc (HK.out) _))
  have z5 : w4.heap.size + 1 ≤ W5.heap.size := by rw [← hW]; simp
  clear hW
  have o_x_0 : W5.cell? ⟨w.heap.size, 0, none⟩ = some (.int .i64 (x.lo)) := blk_cell B_x.out 0
  have o_x_1 : W5.cell? ⟨w.heap.size, 1, none⟩ = some (.int .i64 (x.wide)) := blk_cell B_x.out 1
  have o_x_2 : W5.cell? ⟨w.heap.size, 2, none⟩ = some (.int .i64 (x.sent)) := blk_cell B_x.out 2
  have o_x_3 : W5.cell? ⟨w.heap.size, 3, none⟩ = some (.int .i64 (x.took)) := blk_cell B_x.out 3
  have o_x_4 : W5.cell? ⟨w.heap.size, 4, none⟩ = some (.int .i64 (x.since)) := blk_cell B_x.out 4
  have o_x_5 : W5.cell? ⟨w.heap.size, 5, none⟩ = some (.int .i64 (x.tick)) := blk_cell B_x.out 5
  have o_x_6 : W5.cell? ⟨w.heap.size, 6, none⟩ = some (.int .i64 (x.drift)) := blk_cell B_x.out 6
  go_upto_region 4 with (fail)
  clear o_x_0 o_x_1 o_x_2 o_x_3 o_x_4 o_x_5 o_x_6
  generalize hW : World.alloc W5 _ = W6
  replace B_x : Hd (Blk W6 (w.heap.size) #[.int .i64 x.lo, .int .i64 x.wide, .int .i64 x.sent, .int .i64 x.took, .int .i64 x.since, .int .i64 x.tick, .int .i64 x.drift] 23) := hid (by rw [← hW]; exact (blk_alloc B_x.out _))
  replace B_t : Hd (Blk W6 (w2.heap.size) #[.int .i64 t.lo, .int .i64 t.hi] 25) := hid (by rw [← hW]; exact (blk_alloc B_t.out _))
  replace B_s : Hd (Blk W6 (w4.heap.size) #[.int .i64 s.sent, .int .i64 s.recv, .int .i64 s.tick] 32) := hid (by rw [← hW]; exact (blk_alloc B_s.out _))
  have B_r : Hd (Blk W6 (W5.heap.size) #[.int .i64 x.sent, .int .i64 x.took, .int .i64 x.tick] 32) := hid (by rw [← hW]; exact (blk_new _ _ _))
  replace HK : Hd (Keeps (fun _ => False) w W6) := hid (by rw [← hW]; exact (Keeps.alloc (HK.out) _))
  have z6 : W5.heap.size + 1 ≤ W6.heap.size := by rw [← hW]; simp
  clear hW
  have q9 : around x.since 274877906944 ≤ 1000000000000 := by omega
  go_upto_region 4 with (fail)
  go_cut [7, 8] from 29 to 38 (fun u7 u8 wx => CutN W6 #[.int .i64 ((cor t s nx (1 + around x.drift 1000000)).1.lo), .int .i64 ((cor t s nx (1 + around x.drift 1000000)).1.hi)] 25 u7 wx ∧ u8 = .int .i64 (cor t s nx (1 + around x.drift 1000000)).2)
  case first =>
    have o_t_0 : W6.cell? ⟨w2.heap.size, 0, none⟩ = some (.int .i64 (t.lo)) := blk_cell B_t.out 0
    have o_t_1 : W6.cell? ⟨w2.heap.size, 1, none⟩ = some (.int .i64 (t.hi)) := blk_cell B_t.out 1
    have o_s_0 : W6.cell? ⟨w4.heap.size, 0, none⟩ = some (.int .i64 (s.sent)) := blk_cell B_s.out 0
    have o_s_1 : W6.cell? ⟨w4.heap.size, 1, none⟩ = some (.int .i64 (s.recv)) := blk_cell B_s.out 1
    have o_s_2 : W6.cell? ⟨w4.heap.size, 2, none⟩ = some (.int .i64 (s.tick)) := blk_cell B_s.out 2
    have o_x_6 : W6.cell? ⟨w.heap.size, 6, none⟩ = some (.int .i64 (x.drift)) := blk_cell B_x.out 6
    have m_0 := World.new_ne W6 _ o_t_0
    have m_1 := World.new_ne W6 _ o_t_1
    have m_2 := World.new_ne W6 _ o_s_0
    have m_3 := World.new_ne W6 _ o_s_1
    have m_4 := World.new_ne W6 _ o_s_2
    have m_5 := World.new_ne W6 _ o_x_6
    go_region_held3 (fun w' => w'.cell? ⟨w2.heap.size, 0, none⟩ = some (.int .i64 (t.lo)) ∧ w'.cell? ⟨w2.heap.size, 1, none⟩ = some (.int .i64 (t.hi)) ∧ w'.cell? ⟨w4.heap.size, 0, none⟩ = some (.int .i64 (s.sent)) ∧ w'.cell? ⟨w4.heap.size, 1, none⟩ = some (.int .i64 (s.recv)) ∧ w'.cell? ⟨w4.heap.size, 2, none⟩ = some (.int .i64 (s.tick)) ∧ w'.cell? ⟨w.heap.size, 6, none⟩ = some (.int .i64 (x.drift))) (first | go_keep | (go_split_ands; refine ⟨?_, ?_, ?_, ?_, ?_, ?_⟩ <;> assumption) | assumption) (first | (go_at_call 17; refine (drift_any _ _ D1.out D2.out).mono ?_; rintro e w1 ⟨rfl, rfl⟩) | (go_at_call 21; (with_reducible refine (Correlate_all t s nx (1 + around x.drift 1000000) _ s7 dd de).mono ?_); rintro e wz ⟨rfl, hk⟩; have hkk : Keeps (fun _ => False) W6 wz := Keeps.trans (by repeat (first | (with_reducible assumption) | (with_reducible exact Keeps.refl _ _) | (with_reducible apply Keeps.drewN) | (with_reducible apply Keeps.drew) | (with_reducible apply Keeps.alloc) | refine Keeps.setCell ?_ (by first | (simp; done) | (simp; omega)) _)) hk; have s_0 := keep_cell hkk (fun h => h) o_t_0; have n_0 := World.new_ne wz _ s_0; have s_1 := keep_cell hkk (fun h => h) o_t_1; have n_1 := World.new_ne wz _ s_1; have s_2 := keep_cell hkk (fun h => h) o_s_0; have n_2 := World.new_ne wz _ s_2; have s_3 := keep_cell hkk (fun h => h) o_s_1; have n_3 := World.new_ne wz _ s_3; have s_4 := keep_cell hkk (fun h => h) o_s_2; have n_4 := World.new_ne wz _ s_4; have s_5 := keep_cell hkk (fun h => h) o_x_6; have n_5 := World.new_ne wz _ s_5; (try ((have HN := iv_new W6 _ wz hk rfl); obtain ⟨HNB, F0, F1, G0, G1⟩ := HN)); have zw := hkk.size; replace hkk := hid hkk; replace hk := hid hk))
    all_goals
      go_wp2_with fail
      go_meet
      first | exact ⟨cutN_new hkk.out, rfl⟩ | exact ⟨cutN_old hkk.out (Nat.le_refl _) HNB, rfl⟩ | exact ⟨cutN_old hkk.out zw HNB, rfl⟩ | exact ⟨cutN_drew (cutN_new hkk.out), rfl⟩ | exact ⟨cutN_drew (cutN_old hkk.out (Nat.le_refl _) HNB), rfl⟩
  case rest =>
    obtain ⟨⟨b_a, rfl, B_a, hk⟩, rfl⟩ := hcut
    replace hk := hk.out
    generalize wc = wq7 at *
    replace B_x : Hd (Blk wq7 (w.heap.size) #[.int .i64 x.lo, .int .i64 x.wide, .int .i64 x.sent, .int .i64 x.took, .int .i64 x.since, .int .i64 x.tick, .int .i64 x.drift] 23) := hid (blk_keep B_x.out hk (fun h => h))
    replace B_t : Hd (Blk wq7 (w2.heap.size) #[.int .i64 t.lo, .int .i64 t.hi] 25) := hid (blk_keep B_t.out hk (fun h => h))
    replace B_s : Hd (Blk wq7 (w4.heap.size) #[.int .i64 s.sent, .int .i64 s.recv, .int .i64 s.tick] 32) := hid (blk_keep B_s.out hk (fun h => h))
    replace B_r : Hd (Blk wq7 (W5.heap.size) #[.int .i64 x.sent, .int .i64 x.took, .int .i64 x.tick] 32) := hid (blk_keep B_r.out hk (fun h => h))
    replace HK : Hd (Keeps (fun _ => False) w wq7) := hid (HK.out.trans hk)
    have z7 := hk.size
    clear hk
    go_upto_region 5 with (fail)
    go_cut [9, 10] from 39 to 48 (fun u9 u10 wx => CutN wq7 #[.int .i64 ((cor t s nx (1 + around x.drift 1000000)).1.lo), .int .i64 ((cor t s nx (1 + around x.drift 1000000)).1.hi)] 25 u9 wx ∧ u10 = .int .i64 (cor t s nx (1 + around x.drift 1000000)).2)
    case first =>
      have o_t_0 : wq7.cell? ⟨w2.heap.size, 0, none⟩ = some (.int .i64 (t.lo)) := blk_cell B_t.out 0
      have o_t_1 : wq7.cell? ⟨w2.heap.size, 1, none⟩ = some (.int .i64 (t.hi)) := blk_cell B_t.out 1
      have o_s_0 : wq7.cell? ⟨w4.heap.size, 0, none⟩ = some (.int .i64 (s.sent)) := blk_cell B_s.out 0
      have o_s_1 : wq7.cell? ⟨w4.heap.size, 1, none⟩ = some (.int .i64 (s.recv)) := blk_cell B_s.out 1
      have o_s_2 : wq7.cell? ⟨w4.heap.size, 2, none⟩ = some (.int .i64 (s.tick)) := blk_cell B_s.out 2
      have o_x_6 : wq7.cell? ⟨w.heap.size, 6, none⟩ = some (.int .i64 (x.drift)) := blk_cell B_x.out 6
      have m_0 := World.new_ne wq7 _ o_t_0
      have m_1 := World.new_ne wq7 _ o_t_1
      have m_2 := World.new_ne wq7 _ o_s_0
      have m_3 := World.new_ne wq7 _ o_s_1
      have m_4 := World.new_ne wq7 _ o_s_2
      have m_5 := World.new_ne wq7 _ o_x_6
      go_region_held3 (fun w' => w'.cell? ⟨w2.heap.size, 0, none⟩ = some (.int .i64 (t.lo)) ∧ w'.cell? ⟨w2.heap.size, 1, none⟩ = some (.int .i64 (t.hi)) ∧ w'.cell? ⟨w4.heap.size, 0, none⟩ = some (.int .i64 (s.sent)) ∧ w'.cell? ⟨w4.heap.size, 1, none⟩ = some (.int .i64 (s.recv)) ∧ w'.cell? ⟨w4.heap.size, 2, none⟩ = some (.int .i64 (s.tick)) ∧ w'.cell? ⟨w.heap.size, 6, none⟩ = some (.int .i64 (x.drift))) (first | go_keep | (go_split_ands; refine ⟨?_, ?_, ?_, ?_, ?_, ?_⟩ <;> assumption) | assumption) (first | (go_at_call 17; refine (drift_any _ _ D1.out D2.out).mono ?_; rintro e w1 ⟨rfl, rfl⟩) | (go_at_call 22; (with_reducible refine (RCorrelate_all t s nx (1 + around x.drift 1000000) _ s7 dd de).mono ?_); rintro e wz ⟨rfl, hk⟩; have hkk : Keeps (fun _ => False) wq7 wz := Keeps.trans (by repeat (first | (with_reducible assumption) | (with_reducible exact Keeps.refl _ _) | (with_reducible apply Keeps.drewN) | (with_reducible apply Keeps.drew) | (with_reducible apply Keeps.alloc) | refine Keeps.setCell ?_ (by first | (simp; done) | (simp; omega)) _)) hk; have s_0 := keep_cell hkk (fun h => h) o_t_0; have n_0 := World.new_ne wz _ s_0; have s_1 := keep_cell hkk (fun h => h) o_t_1; have n_1 := World.new_ne wz _ s_1; have s_2 := keep_cell hkk (fun h => h) o_s_0; have n_2 := World.new_ne wz _ s_2; have s_3 := keep_cell hkk (fun h => h) o_s_1; have n_3 := World.new_ne wz _ s_3; have s_4 := keep_cell hkk (fun h => h) o_s_2; have n_4 := World.new_ne wz _ s_4; have s_5 := keep_cell hkk (fun h => h) o_x_6; have n_5 := World.new_ne wz _ s_5; (try ((have HN := iv_new wq7 _ wz hk rfl); obtain ⟨HNB, F0, F1, G0, G1⟩ := HN)); have zw := hkk.size; replace hkk := hid hkk; replace hk := hid hk))
      all_goals
        go_wp2_with fail
        go_meet
        first | exact ⟨cutN_new hkk.out, rfl⟩ | exact ⟨cutN_old hkk.out (Nat.le_refl _) HNB, rfl⟩ | exact ⟨cutN_old hkk.out zw HNB, rfl⟩ | exact ⟨cutN_drew (cutN_new hkk.out), rfl⟩ | exact ⟨cutN_drew (cutN_old hkk.out (Nat.le_refl _) HNB), rfl⟩
    case rest =>
      obtain ⟨⟨b_b, rfl, B_b, hk⟩, rfl⟩ := hcut
      replace hk := hk.out
      generalize wc = wq8 at *
      replace B_x : Hd (Blk wq8 (w.heap.size) #[.int .i64 x.lo, .int .i64 x.wide, .int .i64 x.sent, .int .i64 x.took, .int .i64 x.since, .int .i64 x.tick, .int .i64 x.drift] 23) := hid (blk_keep B_x.out hk (fun h => h))
      replace B_t : Hd (Blk wq8 (w2.heap.size) #[.int .i64 t.lo, .int .i64 t.hi] 25) := hid (blk_keep B_t.out hk (fun h => h))
      replace B_s : Hd (Blk wq8 (w4.heap.size) #[.int .i64 s.sent, .int .i64 s.recv, .int .i64 s.tick] 32) := hid (blk_keep B_s.out hk (fun h => h))
      replace B_r : Hd (Blk wq8 (W5.heap.size) #[.int .i64 x.sent, .int .i64 x.took, .int .i64 x.tick] 32) := hid (blk_keep B_r.out hk (fun h => h))
      replace B_a : Hd (Blk wq8 (b_a) #[.int .i64 ((cor t s nx (1 + around x.drift 1000000)).1.lo), .int .i64 ((cor t s nx (1 + around x.drift 1000000)).1.hi)] 25) := hid (blk_keep B_a.out hk (fun h => h))
      replace HK : Hd (Keeps (fun _ => False) w wq8) := hid (HK.out.trans hk)
      have z8 := hk.size
      clear hk
      go_upto_region 6 with (fail)
      go_cut [11, 12] from 49 to 60 (fun u11 u12 wx => CutN wq8 #[.int .i64 ((cor t ⟨x.sent, x.took, x.tick⟩ (around x.since 274877906944) (1 + around x.drift 1000000)).1.lo), .int .i64 ((cor t ⟨x.sent, x.took, x.tick⟩ (around x.since 274877906944) (1 + around x.drift 1000000)).1.hi)] 25 u11 wx ∧ u12 = .int .i64 (cor t ⟨x.sent, x.took, x.tick⟩ (around x.since 274877906944) (1 + around x.drift 1000000)).2)
      case first =>
        have o_t_0 : wq8.cell? ⟨w2.heap.size, 0, none⟩ = some (.int .i64 (t.lo)) := blk_cell B_t.out 0
        have o_t_1 : wq8.cell? ⟨w2.heap.size, 1, none⟩ = some (.int .i64 (t.hi)) := blk_cell B_t.out 1
        have o_r_0 : wq8.cell? ⟨W5.heap.size, 0, none⟩ = some (.int .i64 (x.sent)) := blk_cell B_r.out 0
        have o_r_1 : wq8.cell? ⟨W5.heap.size, 1, none⟩ = some (.int .i64 (x.took)) := blk_cell B_r.out 1
        have o_r_2 : wq8.cell? ⟨W5.heap.size, 2, none⟩ = some (.int .i64 (x.tick)) := blk_cell B_r.out 2
        have o_x_4 : wq8.cell? ⟨w.heap.size, 4, none⟩ = some (.int .i64 (x.since)) := blk_cell B_x.out 4
        have o_x_6 : wq8.cell? ⟨w.heap.size, 6, none⟩ = some (.int .i64 (x.drift)) := blk_cell B_x.out 6
        have m_0 := World.new_ne wq8 _ o_t_0
        have m_1 := World.new_ne wq8 _ o_t_1
        have m_2 := World.new_ne wq8 _ o_r_0
        have m_3 := World.new_ne wq8 _ o_r_1
        have m_4 := World.new_ne wq8 _ o_r_2
        have m_5 := World.new_ne wq8 _ o_x_4
        have m_6 := World.new_ne wq8 _ o_x_6
        go_region_held3 (fun w' => w'.cell? ⟨w2.heap.size, 0, none⟩ = some (.int .i64 (t.lo)) ∧ w'.cell? ⟨w2.heap.size, 1, none⟩ = some (.int .i64 (t.hi)) ∧ w'.cell? ⟨W5.heap.size, 0, none⟩ = some (.int .i64 (x.sent)) ∧ w'.cell? ⟨W5.heap.size, 1, none⟩ = some (.int .i64 (x.took)) ∧ w'.cell? ⟨W5.heap.size, 2, none⟩ = some (.int .i64 (x.tick)) ∧ w'.cell? ⟨w.heap.size, 4, none⟩ = some (.int .i64 (x.since)) ∧ w'.cell? ⟨w.heap.size, 6, none⟩ = some (.int .i64 (x.drift))) (first | go_keep | (go_split_ands; refine ⟨?_, ?_, ?_, ?_, ?_, ?_, ?_⟩ <;> assumption) | assumption) (first | (go_at_call 16; refine (counted_any _ _ N1.out N2.out).mono ?_; rintro e w1 ⟨rfl, rfl⟩) | (go_at_call 17; refine (drift_any _ _ D1.out D2.out).mono ?_; rintro e w1 ⟨rfl, rfl⟩) | (go_at_call 21; (with_reducible refine (Correlate_all t ⟨x.sent, x.took, x.tick⟩ (around x.since 274877906944) (1 + around x.drift 1000000) _ q9 dd de).mono ?_); rintro e wz ⟨rfl, hk⟩; have hkk : Keeps (fun _ => False) wq8 wz := Keeps.trans (by repeat (first | (with_reducible assumption) | (with_reducible exact Keeps.refl _ _) | (with_reducible apply Keeps.drewN) | (with_reducible apply Keeps.drew) | (with_reducible apply Keeps.alloc) | refine Keeps.setCell ?_ (by first | (simp; done) | (simp; omega)) _)) hk; have s_0 := keep_cell hkk (fun h => h) o_t_0; have n_0 := World.new_ne wz _ s_0; have s_1 := keep_cell hkk (fun h => h) o_t_1; have n_1 := World.new_ne wz _ s_1; have s_2 := keep_cell hkk (fun h => h) o_r_0; have n_2 := World.new_ne wz _ s_2; have s_3 := keep_cell hkk (fun h => h) o_r_1; have n_3 := World.new_ne wz _ s_3; have s_4 := keep_cell hkk (fun h => h) o_r_2; have n_4 := World.new_ne wz _ s_4; have s_5 := keep_cell hkk (fun h => h) o_x_4; have n_5 := World.new_ne wz _ s_5; have s_6 := keep_cell hkk (fun h => h) o_x_6; have n_6 := World.new_ne wz _ s_6; (try ((have HN := iv_new wq8 _ wz hk rfl); obtain ⟨HNB, F0, F1, G0, G1⟩ := HN)); have zw := hkk.size; replace hkk := hid hkk; replace hk := hid hk))
        all_goals
          go_wp2_with fail
          go_meet
          first | exact ⟨cutN_new hkk.out, rfl⟩ | exact ⟨cutN_old hkk.out (Nat.le_refl _) HNB, rfl⟩ | exact ⟨cutN_old hkk.out zw HNB, rfl⟩ | exact ⟨cutN_drew (cutN_new hkk.out), rfl⟩ | exact ⟨cutN_drew (cutN_old hkk.out (Nat.le_refl _) HNB), rfl⟩
      case rest =>
        obtain ⟨⟨b_c, rfl, B_c, hk⟩, rfl⟩ := hcut
        replace hk := hk.out
        generalize wc = wq9 at *
        replace B_x : Hd (Blk wq9 (w.heap.size) #[.int .i64 x.lo, .int .i64 x.wide, .int .i64 x.sent, .int .i64 x.took, .int .i64 x.since, .int .i64 x.tick, .int .i64 x.drift] 23) := hid (blk_keep B_x.out hk (fun h => h))
        replace B_t : Hd (Blk wq9 (w2.heap.size) #[.int .i64 t.lo, .int .i64 t.hi] 25) := hid (blk_keep B_t.out hk (fun h => h))
        replace B_s : Hd (Blk wq9 (w4.heap.size) #[.int .i64 s.sent, .int .i64 s.recv, .int .i64 s.tick] 32) := hid (blk_keep B_s.out hk (fun h => h))
        replace B_r : Hd (Blk wq9 (W5.heap.size) #[.int .i64 x.sent, .int .i64 x.took, .int .i64 x.tick] 32) := hid (blk_keep B_r.out hk (fun h => h))
        replace B_a : Hd (Blk wq9 (b_a) #[.int .i64 ((cor t s nx (1 + around x.drift 1000000)).1.lo), .int .i64 ((cor t s nx (1 + around x.drift 1000000)).1.hi)] 25) := hid (blk_keep B_a.out hk (fun h => h))
        replace B_b : Hd (Blk wq9 (b_b) #[.int .i64 ((cor t s nx (1 + around x.drift 1000000)).1.lo), .int .i64 ((cor t s nx (1 + around x.drift 1000000)).1.hi)] 25) := hid (blk_keep B_b.out hk (fun h => h))
        replace HK : Hd (Keeps (fun _ => False) w wq9) := hid (HK.out.trans hk)
        have z9 := hk.size
        clear hk
        go_upto_region 7 with (fail)
        go_cut [13, 14] from 61 to 72 (fun u13 u14 wx => CutN wq9 #[.int .i64 ((cor t ⟨x.sent, x.took, x.tick⟩ (around x.since 274877906944) (1 + around x.drift 1000000)).1.lo), .int .i64 ((cor t ⟨x.sent, x.took, x.tick⟩ (around x.since 274877906944) (1 + around x.drift 1000000)).1.hi)] 25 u13 wx ∧ u14 = .int .i64 (cor t ⟨x.sent, x.took, x.tick⟩ (around x.since 274877906944) (1 + around x.drift 1000000)).2)
        case first =>
          have o_t_0 : wq9.cell? ⟨w2.heap.size, 0, none⟩ = some (.int .i64 (t.lo)) := blk_cell B_t.out 0
          have o_t_1 : wq9.cell? ⟨w2.heap.size, 1, none⟩ = some (.int .i64 (t.hi)) := blk_cell B_t.out 1
          have o_r_0 : wq9.cell? ⟨W5.heap.size, 0, none⟩ = some (.int .i64 (x.sent)) := blk_cell B_r.out 0
          have o_r_1 : wq9.cell? ⟨W5.heap.size, 1, none⟩ = some (.int .i64 (x.took)) := blk_cell B_r.out 1
          have o_r_2 : wq9.cell? ⟨W5.heap.size, 2, none⟩ = some (.int .i64 (x.tick)) := blk_cell B_r.out 2
          have o_x_4 : wq9.cell? ⟨w.heap.size, 4, none⟩ = some (.int .i64 (x.since)) := blk_cell B_x.out 4
          have o_x_6 : wq9.cell? ⟨w.heap.size, 6, none⟩ = some (.int .i64 (x.drift)) := blk_cell B_x.out 6
          have m_0 := World.new_ne wq9 _ o_t_0
          have m_1 := World.new_ne wq9 _ o_t_1
          have m_2 := World.new_ne wq9 _ o_r_0
          have m_3 := World.new_ne wq9 _ o_r_1
          have m_4 := World.new_ne wq9 _ o_r_2
          have m_5 := World.new_ne wq9 _ o_x_4
          have m_6 := World.new_ne wq9 _ o_x_6
          go_region_held3 (fun w' => w'.cell? ⟨w2.heap.size, 0, none⟩ = some (.int .i64 (t.lo)) ∧ w'.cell? ⟨w2.heap.size, 1, none⟩ = some (.int .i64 (t.hi)) ∧ w'.cell? ⟨W5.heap.size, 0, none⟩ = some (.int .i64 (x.sent)) ∧ w'.cell? ⟨W5.heap.size, 1, none⟩ = some (.int .i64 (x.took)) ∧ w'.cell? ⟨W5.heap.size, 2, none⟩ = some (.int .i64 (x.tick)) ∧ w'.cell? ⟨w.heap.size, 4, none⟩ = some (.int .i64 (x.since)) ∧ w'.cell? ⟨w.heap.size, 6, none⟩ = some (.int .i64 (x.drift))) (first | go_keep | (go_split_ands; refine ⟨?_, ?_, ?_, ?_, ?_, ?_, ?_⟩ <;> assumption) | assumption) (first | (go_at_call 16; refine (counted_any _ _ N1.out N2.out).mono ?_; rintro e w1 ⟨rfl, rfl⟩) | (go_at_call 17; refine (drift_any _ _ D1.out D2.out).mono ?_; rintro e w1 ⟨rfl, rfl⟩) | (go_at_call 22; (with_reducible refine (RCorrelate_all t ⟨x.sent, x.took, x.tick⟩ (around x.since 274877906944) (1 + around x.drift 1000000) _ q9 dd de).mono ?_); rintro e wz ⟨rfl, hk⟩; have hkk : Keeps (fun _ => False) wq9 wz := Keeps.trans (by repeat (first | (with_reducible assumption) | (with_reducible exact Keeps.refl _ _) | (with_reducible apply Keeps.drewN) | (with_reducible apply Keeps.drew) | (with_reducible apply Keeps.alloc) | refine Keeps.setCell ?_ (by first | (simp; done) | (simp; omega)) _)) hk; have s_0 := keep_cell hkk (fun h => h) o_t_0; have n_0 := World.new_ne wz _ s_0; have s_1 := keep_cell hkk (fun h => h) o_t_1; have n_1 := World.new_ne wz _ s_1; have s_2 := keep_cell hkk (fun h => h) o_r_0; have n_2 := World.new_ne wz _ s_2; have s_3 := keep_cell hkk (fun h => h) o_r_1; have n_3 := World.new_ne wz _ s_3; have s_4 := keep_cell hkk (fun h => h) o_r_2; have n_4 := World.new_ne wz _ s_4; have s_5 := keep_cell hkk (fun h => h) o_x_4; have n_5 := World.new_ne wz _ s_5; have s_6 := keep_cell hkk (fun h => h) o_x_6; have n_6 := World.new_ne wz _ s_6; (try ((have HN := iv_new wq9 _ wz hk rfl); obtain ⟨HNB, F0, F1, G0, G1⟩ := HN)); have zw := hkk.size; replace hkk := hid hkk; replace hk := hid hk))
          all_goals
            go_wp2_with fail
            go_meet
            first | exact ⟨cutN_new hkk.out, rfl⟩ | exact ⟨cutN_old hkk.out (Nat.le_refl _) HNB, rfl⟩ | exact ⟨cutN_old hkk.out zw HNB, rfl⟩ | exact ⟨cutN_drew (cutN_new hkk.out), rfl⟩ | exact ⟨cutN_drew (cutN_old hkk.out (Nat.le_refl _) HNB), rfl⟩
        case rest =>
          obtain ⟨⟨b_d, rfl, B_d, hk⟩, rfl⟩ := hcut
          replace hk := hk.out
          generalize wc = wq10 at *
          replace B_x : Hd (Blk wq10 (w.heap.size) #[.int .i64 x.lo, .int .i64 x.wide, .int .i64 x.sent, .int .i64 x.took, .int .i64 x.since, .int .i64 x.tick, .int .i64 x.drift] 23) := hid (blk_keep B_x.out hk (fun h => h))
          replace B_t : Hd (Blk wq10 (w2.heap.size) #[.int .i64 t.lo, .int .i64 t.hi] 25) := hid (blk_keep B_t.out hk (fun h => h))
          replace B_s : Hd (Blk wq10 (w4.heap.size) #[.int .i64 s.sent, .int .i64 s.recv, .int .i64 s.tick] 32) := hid (blk_keep B_s.out hk (fun h => h))
          replace B_r : Hd (Blk wq10 (W5.heap.size) #[.int .i64 x.sent, .int .i64 x.took, .int .i64 x.tick] 32) := hid (blk_keep B_r.out hk (fun h => h))
          replace B_a : Hd (Blk wq10 (b_a) #[.int .i64 ((cor t s nx (1 + around x.drift 1000000)).1.lo), .int .i64 ((cor t s nx (1 + around x.drift 1000000)).1.hi)] 25) := hid (blk_keep B_a.out hk (fun h => h))
          replace B_b : Hd (Blk wq10 (b_b) #[.int .i64 ((cor t s nx (1 + around x.drift 1000000)).1.lo), .int .i64 ((cor t s nx (1 + around x.drift 1000000)).1.hi)] 25) := hid (blk_keep B_b.out hk (fun h => h))
          replace B_c : Hd (Blk wq10 (b_c) #[.int .i64 ((cor t ⟨x.sent, x.took, x.tick⟩ (around x.since 274877906944) (1 + around x.drift 1000000)).1.lo), .int .i64 ((cor t ⟨x.sent, x.took, x.tick⟩ (around x.since 274877906944) (1 + around x.drift 1000000)).1.hi)] 25) := hid (blk_keep B_c.out hk (fun h => h))
          replace HK : Hd (Keeps (fun _ => False) w wq10) := hid (HK.out.trans hk)
          have z10 := hk.size
          clear hk
          generalize cor t s nx (1 + around x.drift 1000000) = c1 at *
          generalize cor t ⟨x.sent, x.took, x.tick⟩ (around x.since 274877906944) (1 + around x.drift 1000000) = c2 at *
          have o_a_0 : wq10.cell? ⟨b_a, 0, none⟩ = some (.int .i64 (c1.1.lo)) := blk_cell B_a.out 0
          have o_a_1 : wq10.cell? ⟨b_a, 1, none⟩ = some (.int .i64 (c1.1.hi)) := blk_cell B_a.out 1
          have o_b_0 : wq10.cell? ⟨b_b, 0, none⟩ = some (.int .i64 (c1.1.lo)) := blk_cell B_b.out 0
          have o_b_1 : wq10.cell? ⟨b_b, 1, none⟩ = some (.int .i64 (c1.1.hi)) := blk_cell B_b.out 1
          have o_c_0 : wq10.cell? ⟨b_c, 0, none⟩ = some (.int .i64 (c2.1.lo)) := blk_cell B_c.out 0
          have o_c_1 : wq10.cell? ⟨b_c, 1, none⟩ = some (.int .i64 (c2.1.hi)) := blk_cell B_c.out 1
          have o_d_0 : wq10.cell? ⟨b_d, 0, none⟩ = some (.int .i64 (c2.1.lo)) := blk_cell B_d.out 0
          have o_d_1 : wq10.cell? ⟨b_d, 1, none⟩ = some (.int .i64 (c2.1.hi)) := blk_cell B_d.out 1
          go_wp2_with fail
          clear o_a_0 o_a_1 o_b_0 o_b_1 o_c_0 o_c_1 o_d_0 o_d_1
          refine (lives_any _).mono ?_
          rintro e w11 ⟨rfl, hk⟩
          replace B_x : Hd (Blk w11 (w.heap.size) #[.int .i64 x.lo, .int .i64 x.wide, .int .i64 x.sent, .int .i64 x.took, .int .i64 x.since, .int .i64 x.tick, .int .i64 x.drift] 23) := hid (blk_keep B_x.out hk (fun h => h))
          replace B_t : Hd (Blk w11 (w2.heap.size) #[.int .i64 t.lo, .int .i64 t.hi] 25) := hid (blk_keep B_t.out hk (fun h => h))
          replace B_s : Hd (Blk w11 (w4.heap.size) #[.int .i64 s.sent, .int .i64 s.recv, .int .i64 s.tick] 32) := hid (blk_keep B_s.out hk (fun h => h))
          replace B_r : Hd (Blk w11 (W5.heap.size) #[.int .i64 x.sent, .int .i64 x.took, .int .i64 x.tick] 32) := hid (blk_keep B_r.out hk (fun h => h))
          replace B_a : Hd (Blk w11 (b_a) #[.int .i64 c1.1.lo, .int .i64 c1.1.hi] 25) := hid (blk_keep B_a.out hk (fun h => h))
          replace B_b : Hd (Blk w11 (b_b) #[.int .i64 c1.1.lo, .int .i64 c1.1.hi] 25) := hid (blk_keep B_b.out hk (fun h => h))
          replace B_c : Hd (Blk w11 (b_c) #[.int .i64 c2.1.lo, .int .i64 c2.1.hi] 25) := hid (blk_keep B_c.out hk (fun h => h))
          replace B_d : Hd (Blk w11 (b_d) #[.int .i64 c2.1.lo, .int .i64 c2.1.hi] 25) := hid (blk_keep B_d.out hk (fun h => h))
          replace HK : Hd (Keeps (fun _ => False) w w11) := hid (HK.out.trans hk)
          have z11 := hk.size
          clear hk
          go_wp2
          go_ret
          exact ⟨rfl, HK.out⟩

end Go.Proofs.Ytjdalhnffhoknaa
