/- The walk of the law ClockWindows. -/
import Derived.Test.YtjdalhnffhoknaaClockK
import Derived.Deep.DrawnRows
import Derived.Deep.Cut
import Derived.Deep.CutRange
namespace Go.Proofs.Ytjdalhnffhoknaa
open Go.RowKit
attribute [local go_sem ↓] Go.wp_at_zero Go.wp_at_succ

def CutN (W : World) (cs : Array Value) (T : TypeId) (u : Value) (wx : World) : Prop := ∃ bx : Nat, u = .pointer (some ⟨bx, 0, none⟩) ∧ Hd (Blk wx bx cs T) ∧ Hd (Keeps (fun _ => False) W wx)
theorem cutN_new {W w1 : World} {cs : Array Value} {T : TypeId} (hk : Keeps (fun _ => False) W w1) : CutN W cs T (.pointer (some ⟨w1.heap.size, 0, none⟩)) (w1.alloc (.cells cs T)) := ⟨_, rfl, hid (blk_new _ _ _), hid (hk.alloc _)⟩
theorem cutN_old {W w1 : World} {b : Nat} {c0 c1 z0 z1 : Value} {T : TypeId} (hk : Keeps (fun _ => False) W w1) (hz : W.heap.size ≤ b) (hb : Hd (Blk w1 b #[z0, z1] T)) :
    CutN W #[c0, c1] T (.pointer (some ⟨b, 0, none⟩)) ((w1.setCell ⟨b, 0, none⟩ c0).setCell ⟨b, 1, none⟩ c1) := ⟨_, rfl, hid (blk_set (blk_set hb.out 0 _) 1 _), hid ((hk.setCell (.inr hz) _).setCell (.inr hz) _)⟩
theorem cutN_drew {W wx : World} {cs : Array Value} {T : TypeId} {u : Value} (h : CutN W cs T u wx) : CutN W cs T u wx.drew := by
  obtain ⟨b, h1, h2, h3⟩ := h; exact ⟨b, h1, hid (blk_drew h2.out), hid h3.out.drew⟩

set_option maxRecDepth 100000 in set_option maxHeartbeats 1000000 in
theorem windows_any (x : Case) (f u c : Int) (w : World) (hx : x.ok) (hc : i64ok c) :
    Calls Try.prog 12 #[.agg #[.int .i64 x.lo, .int .i64 x.wide, .int .i64 x.sent, .int .i64 x.took, .int .i64 x.since, .int .i64 x.tick, .int .i64 x.drift], .int .i64 f, .int .i64 u, .int .i64 c] w fun e w' => e = .returned (.bool true) ∧ Keeps (fun _ => False) w w' := by
  have HX := hid hx
  obtain ⟨_, _, _, ⟨k1, k2⟩, ⟨n1, n2⟩, _, ⟨d1, d2⟩⟩ := hx
  have K1 := hid k1; have K2 := hid k2; have D1 := hid d1; have D2 := hid d2; have N1 := hid n1; have N2 := hid n2
  clear k1 k2 d1 d2 n1 n2
  obtain ⟨p0, p1⟩ := around_b x.took 274877906944 (by omega)
  obtain ⟨q0, q1⟩ := around_b x.since 274877906944 (by omega)
  obtain ⟨r0, r1⟩ := around_b x.drift 1000000 (by omega)
  obtain ⟨t0, t1, t2⟩ := timeIv_b x.lo x.wide
  have dd : 1 ≤ 1 + around x.drift 1000000 := by omega
  have de : 1 + around x.drift 1000000 ≤ 1000000000 := by omega
  clear r0 r1
  obtain ⟨c1, c2⟩ := hc; have C1 := hid c1; have C2 := hid c2; clear c1 c2
  clear q0 q1 N1 N2
  go_enter Try.func12, Try.ntmps12
  go_upto_region 1 with (fail)
  generalize hW : World.alloc w _ = W1
  have B_x : Hd (Blk W1 (w.heap.size) #[.int .i64 x.lo, .int .i64 x.wide, .int .i64 x.sent, .int .i64 x.took, .int .i64 x.since, .int .i64 x.tick, .int .i64 x.drift] 23) := hid (by rw [← hW]; exact (blk_new _ _ _))
  have HK : Hd (Keeps (fun _ => False) w W1) := hid (by rw [← hW]; exact (Keeps.alloc (Keeps.refl _ _) _))
  have z1 : w.heap.size + 1 ≤ W1.heap.size := by rw [← hW]; simp
  clear hW
  have o_x_0 : W1.cell? ⟨w.heap.size, 0, none⟩ = some (.int .i64 (x.lo)) := blk_cell B_x.out 0
  have o_x_1 : W1.cell? ⟨w.heap.size, 1, none⟩ = some (.int .i64 (x.wide)) := blk_cell B_x.out 1
  have o_x_2 : W1.cell? ⟨w.heap.size, 2, none⟩ = some (.int .i64 (x.sent)) := blk_cell B_x.out 2
  have o_x_3 : W1.cell? ⟨w.heap.size, 3, none⟩ = some (.int .i64 (x.took)) := blk_cell B_x.out 3
  have o_x_4 : W1.cell? ⟨w.heap.size, 4, none⟩ = some (.int .i64 (x.since)) := blk_cell B_x.out 4
  have o_x_5 : W1.cell? ⟨w.heap.size, 5, none⟩ = some (.int .i64 (x.tick)) := blk_cell B_x.out 5
  have o_x_6 : W1.cell? ⟨w.heap.size, 6, none⟩ = some (.int .i64 (x.drift)) := blk_cell B_x.out 6
  go_wp2_with fail
  clear o_x_0 o_x_1 o_x_2 o_x_3 o_x_4 o_x_5 o_x_6
  refine (interval_any x _ HX.out).mono ?_
  rintro e w2 ⟨rfl, hk⟩
  replace B_x : Hd (Blk w2 (w.heap.size) #[.int .i64 x.lo, .int .i64 x.wide, .int .i64 x.sent, .int .i64 x.took, .int .i64 x.since, .int .i64 x.tick, .int .i64 x.drift] 23) := hid (blk_keep B_x.out hk (fun h => h))
  replace HK : Hd (Keeps (fun _ => False) w w2) := hid (HK.out.trans hk)
  have z2 := hk.size
  clear hk
  generalize timeIv x.lo x.wide = t at *
  go_upto_region 2 with (fail)
  generalize hW : World.alloc w2 _ = W3
  replace B_x : Hd (Blk W3 (w.heap.size) #[.int .i64 x.lo, .int .i64 x.wide, .int .i64 x.sent, .int .i64 x.took, .int .i64 x.since, .int .i64 x.tick, .int .i64 x.drift] 23) := hid (by rw [← hW]; exact (blk_alloc B_x.out _))
  have B_t : Hd (Blk W3 (w2.heap.size) #[.int .i64 t.lo, .int .i64 t.hi] 25) := hid (by rw [← hW]; exact (blk_new _ _ _))
  replace HK : Hd (Keeps (fun _ => False) w W3) := hid (by rw [← hW]; exact (Keeps.alloc (HK.out) _))
  have z3 : w2.heap.size + 1 ≤ W3.heap.size := by rw [← hW]; simp
  clear hW
  have o_t_0 : W3.cell? ⟨w2.heap.size, 0, none⟩ = some (.int .i64 (t.lo)) := blk_cell B_t.out 0
  have o_t_1 : W3.cell? ⟨w2.heap.size, 1, none⟩ = some (.int .i64 (t.hi)) := blk_cell B_t.out 1
  go_wp2_with fail
  clear o_t_0 o_t_1
  refine (Judge_any t f u _).mono ?_
  rintro e w4 ⟨rfl, hk⟩
  replace B_x : Hd (Blk w4 (w.heap.size) #[.int .i64 x.lo, .int .i64 x.wide, .int .i64 x.sent, .int .i64 x.took, .int .i64 x.since, .int .i64 x.tick, .int .i64 x.drift] 23) := hid (blk_keep B_x.out hk (fun h => h))
  replace B_t : Hd (Blk w4 (w2.heap.size) #[.int .i64 t.lo, .int .i64 t.hi] 25) := hid (blk_keep B_t.out hk (fun h => h))
  replace HK : Hd (Keeps (fun _ => False) w w4) := hid (HK.out.trans hk)
  have z4 := hk.size
  clear hk
  have hj : judge t f u = 1 ∨ judge t f u = -1 ∨ judge t f u = 0 := by unfold judge; split; exact .inl rfl; split; exact .inr (.inl rfl); exact .inr (.inr rfl)
  have hjz := judge_zero t f u
  have HP := hid (fun (c d : Int) hc hd => judge_past t f u c d t2 (by omega) hc hd)
  obtain ⟨a0, a1⟩ := around_b c (t.hi - t.lo + 1) (by omega)
  rcases hj with hj1 | hj1 | hj1
  · by_cases hf : f ≤ t.lo
    · have g1 : u ≤ t.hi := by unfold judge at hj1; split at hj1; assumption; split at hj1 <;> omega
      have HJ := hid hj1
      rw [hj1]
      clear hj1 hjz
      have v1 : decide (f ≤ t.lo) = true := by simp; omega
      have v2 : decide (t.hi < u) = false := by simp; exact g1
      have o_t_0 : w4.cell? ⟨w2.heap.size, 0, none⟩ = some (.int .i64 (t.lo)) := blk_cell B_t.out 0
      have o_t_1 : w4.cell? ⟨w2.heap.size, 1, none⟩ = some (.int .i64 (t.hi)) := blk_cell B_t.out 1
      go_upto_region 5 with (fail)
      go_upto_region 6 with (fail)
      clear o_t_0 o_t_1
      generalize hW : World.alloc w4 _ = W5
      replace B_x : Hd (Blk W5 (w.heap.size) #[.int .i64 x.lo, .int .i64 x.wide, .int .i64 x.sent, .int .i64 x.took, .int .i64 x.since, .int .i64 x.tick, .int .i64 x.drift] 23) := hid (by rw [← hW]; exact (blk_alloc B_x.out _))
      replace B_t : Hd (Blk W5 (w2.heap.size) #[.int .i64 t.lo, .int .i64 t.hi] 25) := hid (by rw [← hW]; exact (blk_alloc B_t.out _))
      have B_i : Hd (Blk W5 (w4.heap.size) #[.int .i64 t.lo, .int .i64 t.hi] 25) := hid (by rw [← hW]; exact (blk_new _ _ _))
      replace HK : Hd (Keeps (fun _ => False) w W5) := hid (by rw [← hW]; exact (Keeps.alloc (HK.out) _))
      have z5 : w4.heap.size + 1 ≤ W5.heap.size := by rw [← hW]; simp
      clear hW
      have e0 : ∀ y : Ext W5, y.w.cell? ⟨w2.heap.size, 0, none⟩ = some _ := ext_bcell B_t.out 0 rfl
      have e1 : ∀ y : Ext W5, y.w.cell? ⟨w2.heap.size, 1, none⟩ = some _ := ext_bcell B_t.out 1 rfl
      have e2 : ∀ y : Ext W5, y.w.cell? ⟨w4.heap.size, 0, none⟩ = some _ := ext_bcell B_i.out 0 rfl
      have e3 : ∀ y : Ext W5, y.w.frozen? ⟨w4.heap.size, 0, none⟩ = false := ext_bfree B_i.out 0
      have w1 : IntKind.i64.wrap (t.hi - t.lo) = t.hi - t.lo := IntWalk.i64_in _ (by omega)
      have w2 : IntKind.i64.wrap (t.hi - t.lo + 1) = t.hi - t.lo + 1 := IntWalk.i64_in _ (by omega)
      have w3 : IntKind.i64.wrap (t.lo + around c (t.hi - t.lo + 1)) = t.lo + around c (t.hi - t.lo + 1) := IntWalk.i64_in _ (by omega)
      have q1 : 1 ≤ t.hi - t.lo + 1 := by omega
      have q2 : t.hi - t.lo + 1 ≤ 1000000000000000 := by omega
      refine wp_region_ext_tail 12 (by kernel_rfl) (by kernel_rfl) ?_; simp only [List.take_succ_cons, List.take_zero, List.drop_succ_cons, List.drop_zero]
      repeat (go_big_quiet_step (first | (go_at_call 23; exact ext_same (Around_any _ _ _ C1.out C2.out q1 q2))))
      refine wpQuiet_nil ?_
      rintro _ ⟨y, rfl⟩
      clear w1 w2 w3
      go_upto_region 7 with (fail)
      generalize around c (t.hi - t.lo + 1) = A at *
      generalize hV : World.setCell y.w _ _ = V6
      replace B_x : Hd (Blk V6 (w.heap.size) #[.int .i64 x.lo, .int .i64 x.wide, .int .i64 x.sent, .int .i64 x.took, .int .i64 x.since, .int .i64 x.tick, .int .i64 x.drift] 23) := hid (by rw [← hV]; exact blk_other (ext_blk B_x.out y) (by omega) _ _)
      replace B_t : Hd (Blk V6 (w2.heap.size) #[.int .i64 t.lo, .int .i64 t.hi] 25) := hid (by rw [← hV]; exact blk_other (ext_blk B_t.out y) (by omega) _ _)
      replace B_i : Hd (Blk V6 (w4.heap.size) #[.int .i64 (t.lo + A), .int .i64 t.hi] 25) := hid (by rw [← hV]; exact blk_set (ext_blk B_i.out y) 0 _)
      replace HK : Hd (Keeps (fun _ => False) w V6) := hid (by rw [← hV]; exact (HK.out.trans y.k).setCell (.inr (by simp; omega)) _)
      clear e0 e1 e2 e3 hV
      go_upto_region 9 with (fail)
      go_cut [12] from 62 to 69 (fun u12 wx => CutN V6 #[.int .i64 ((adv t (around x.took 274877906944) (1 + around x.drift 1000000)).lo), .int .i64 ((adv t (around x.took 274877906944) (1 + around x.drift 1000000)).hi)] 25 u12 wx)
      case first =>
        have o_t_0 : V6.cell? ⟨w2.heap.size, 0, none⟩ = some (.int .i64 (t.lo)) := blk_cell B_t.out 0
        have o_t_1 : V6.cell? ⟨w2.heap.size, 1, none⟩ = some (.int .i64 (t.hi)) := blk_cell B_t.out 1
        have o_x_3 : V6.cell? ⟨w.heap.size, 3, none⟩ = some (.int .i64 (x.took)) := blk_cell B_x.out 3
        have o_x_6 : V6.cell? ⟨w.heap.size, 6, none⟩ = some (.int .i64 (x.drift)) := blk_cell B_x.out 6
        have m_0 := World.new_ne V6 _ o_t_0
        have m_1 := World.new_ne V6 _ o_t_1
        have m_2 := World.new_ne V6 _ o_x_3
        have m_3 := World.new_ne V6 _ o_x_6
        go_region_held3 (fun w' => w'.cell? ⟨w2.heap.size, 0, none⟩ = some (.int .i64 (t.lo)) ∧ w'.cell? ⟨w2.heap.size, 1, none⟩ = some (.int .i64 (t.hi)) ∧ w'.cell? ⟨w.heap.size, 3, none⟩ = some (.int .i64 (x.took)) ∧ w'.cell? ⟨w.heap.size, 6, none⟩ = some (.int .i64 (x.drift))) (first | go_keep | (go_split_ands; refine ⟨?_, ?_, ?_, ?_⟩ <;> assumption) | assumption) (first | (go_at_call 16; refine (counted_any _ _ K1.out K2.out).mono ?_; rintro e w1 ⟨rfl, rfl⟩) | (go_at_call 17; refine (drift_any _ _ D1.out D2.out).mono ?_; rintro e w1 ⟨rfl, rfl⟩) | (go_at_call 15; refine (Advance_any t _ _ _ t0 (by omega) (by omega) t2 p0 (by omega) dd de).mono ?_; rintro e wz ⟨rfl, hk⟩; have hkk : Keeps (fun _ => False) V6 wz := Keeps.trans (by repeat (first | (with_reducible assumption) | (with_reducible exact Keeps.refl _ _) | (with_reducible apply Keeps.drewN) | (with_reducible apply Keeps.drew) | (with_reducible apply Keeps.alloc) | refine Keeps.setCell ?_ (by first | (simp; done) | (simp; omega)) _)) hk; have s_0 := keep_cell hkk (fun h => h) o_t_0; have n_0 := World.new_ne wz _ s_0; have s_1 := keep_cell hkk (fun h => h) o_t_1; have n_1 := World.new_ne wz _ s_1; have s_2 := keep_cell hkk (fun h => h) o_x_3; have n_2 := World.new_ne wz _ s_2; have s_3 := keep_cell hkk (fun h => h) o_x_6; have n_3 := World.new_ne wz _ s_3; (try ((have HN := iv_new V6 _ wz hk rfl); obtain ⟨HNB, F0, F1, G0, G1⟩ := HN)); replace hkk := hid hkk; replace hk := hid hk))
        all_goals
          go_wp2_with fail
          go_meet
          first | exact cutN_new hkk.out | exact cutN_old hkk.out (Nat.le_refl _) HNB | exact cutN_drew (cutN_new hkk.out) | exact cutN_drew (cutN_old hkk.out (Nat.le_refl _) HNB)
      case rest =>
        obtain ⟨b_n, rfl, B_n, hk⟩ := hcut
        replace hk := hk.out
        generalize wc = wq7 at *
        replace B_x : Hd (Blk wq7 (w.heap.size) #[.int .i64 x.lo, .int .i64 x.wide, .int .i64 x.sent, .int .i64 x.took, .int .i64 x.since, .int .i64 x.tick, .int .i64 x.drift] 23) := hid (blk_keep B_x.out hk (fun h => h))
        replace B_t : Hd (Blk wq7 (w2.heap.size) #[.int .i64 t.lo, .int .i64 t.hi] 25) := hid (blk_keep B_t.out hk (fun h => h))
        replace B_i : Hd (Blk wq7 (w4.heap.size) #[.int .i64 (t.lo + A), .int .i64 t.hi] 25) := hid (blk_keep B_i.out hk (fun h => h))
        replace HK : Hd (Keeps (fun _ => False) w wq7) := hid (HK.out.trans hk)
        have z7 := hk.size
        clear hk
        have HQ := hid (HP.out _ _ p0 dd HJ.out)
        generalize adv t (around x.took 274877906944) (1 + around x.drift 1000000) = n at *
        have o_n_0 : wq7.cell? ⟨b_n, 0, none⟩ = some (.int .i64 (n.lo)) := blk_cell B_n.out 0
        have o_n_1 : wq7.cell? ⟨b_n, 1, none⟩ = some (.int .i64 (n.hi)) := blk_cell B_n.out 1
        go_wp2_with fail
        clear o_n_0 o_n_1
        refine (Judge_any n f u _).mono ?_
        rintro e w8 ⟨rfl, hk⟩
        replace B_x : Hd (Blk w8 (w.heap.size) #[.int .i64 x.lo, .int .i64 x.wide, .int .i64 x.sent, .int .i64 x.took, .int .i64 x.since, .int .i64 x.tick, .int .i64 x.drift] 23) := hid (blk_keep B_x.out hk (fun h => h))
        replace B_t : Hd (Blk w8 (w2.heap.size) #[.int .i64 t.lo, .int .i64 t.hi] 25) := hid (blk_keep B_t.out hk (fun h => h))
        replace B_i : Hd (Blk w8 (w4.heap.size) #[.int .i64 (t.lo + A), .int .i64 t.hi] 25) := hid (blk_keep B_i.out hk (fun h => h))
        replace B_n : Hd (Blk w8 (b_n) #[.int .i64 n.lo, .int .i64 n.hi] 25) := hid (blk_keep B_n.out hk (fun h => h))
        replace HK : Hd (Keeps (fun _ => False) w w8) := hid (HK.out.trans hk)
        have z8 := hk.size
        clear hk
        rw [HQ.out]
        go_wp2_with fail
        refine (lives_any _).mono ?_
        rintro e w9 ⟨rfl, hk⟩
        replace B_x : Hd (Blk w9 (w.heap.size) #[.int .i64 x.lo, .int .i64 x.wide, .int .i64 x.sent, .int .i64 x.took, .int .i64 x.since, .int .i64 x.tick, .int .i64 x.drift] 23) := hid (blk_keep B_x.out hk (fun h => h))
        replace B_t : Hd (Blk w9 (w2.heap.size) #[.int .i64 t.lo, .int .i64 t.hi] 25) := hid (blk_keep B_t.out hk (fun h => h))
        replace B_i : Hd (Blk w9 (w4.heap.size) #[.int .i64 (t.lo + A), .int .i64 t.hi] 25) := hid (blk_keep B_i.out hk (fun h => h))
        replace B_n : Hd (Blk w9 (b_n) #[.int .i64 n.lo, .int .i64 n.hi] 25) := hid (blk_keep B_n.out hk (fun h => h))
        replace HK : Hd (Keeps (fun _ => False) w w9) := hid (HK.out.trans hk)
        have z9 := hk.size
        clear hk
        go_wp2
        go_ret
        exact ⟨rfl, HK.out⟩
    · have g1 : u ≤ t.hi := by unfold judge at hj1; split at hj1; assumption; split at hj1 <;> omega
      have HJ := hid hj1
      rw [hj1]
      clear hj1 hjz
      have v1 : decide (f ≤ t.lo) = false := by simp; omega
      have v2 : decide (t.hi < u) = false := by simp; exact g1
      have o_t_0 : w4.cell? ⟨w2.heap.size, 0, none⟩ = some (.int .i64 (t.lo)) := blk_cell B_t.out 0
      have o_t_1 : w4.cell? ⟨w2.heap.size, 1, none⟩ = some (.int .i64 (t.hi)) := blk_cell B_t.out 1
      go_upto_region 5 with (fail)
      go_upto_region 6 with (fail)
      clear o_t_0 o_t_1
      generalize hW : World.alloc w4 _ = W5
      replace B_x : Hd (Blk W5 (w.heap.size) #[.int .i64 x.lo, .int .i64 x.wide, .int .i64 x.sent, .int .i64 x.took, .int .i64 x.since, .int .i64 x.tick, .int .i64 x.drift] 23) := hid (by rw [← hW]; exact (blk_alloc B_x.out _))
      replace B_t : Hd (Blk W5 (w2.heap.size) #[.int .i64 t.lo, .int .i64 t.hi] 25) := hid (by rw [← hW]; exact (blk_alloc B_t.out _))
      have B_i : Hd (Blk W5 (w4.heap.size) #[.int .i64 t.lo, .int .i64 t.hi] 25) := hid (by rw [← hW]; exact (blk_new _ _ _))
      replace HK : Hd (Keeps (fun _ => False) w W5) := hid (by rw [← hW]; exact (Keeps.alloc (HK.out) _))
      have z5 : w4.heap.size + 1 ≤ W5.heap.size := by rw [← hW]; simp
      clear hW
      have e0 : ∀ y : Ext W5, y.w.cell? ⟨w2.heap.size, 0, none⟩ = some _ := ext_bcell B_t.out 0 rfl
      have e1 : ∀ y : Ext W5, y.w.cell? ⟨w2.heap.size, 1, none⟩ = some _ := ext_bcell B_t.out 1 rfl
      have e2 : ∀ y : Ext W5, y.w.cell? ⟨w4.heap.size, 0, none⟩ = some _ := ext_bcell B_i.out 0 rfl
      have e3 : ∀ y : Ext W5, y.w.frozen? ⟨w4.heap.size, 0, none⟩ = false := ext_bfree B_i.out 0
      have w1 : IntKind.i64.wrap (t.hi - t.lo) = t.hi - t.lo := IntWalk.i64_in _ (by omega)
      have w2 : IntKind.i64.wrap (t.hi - t.lo + 1) = t.hi - t.lo + 1 := IntWalk.i64_in _ (by omega)
      have w3 : IntKind.i64.wrap (t.lo + around c (t.hi - t.lo + 1)) = t.lo + around c (t.hi - t.lo + 1) := IntWalk.i64_in _ (by omega)
      have q1 : 1 ≤ t.hi - t.lo + 1 := by omega
      have q2 : t.hi - t.lo + 1 ≤ 1000000000000000 := by omega
      refine wp_region_ext_tail 12 (by kernel_rfl) (by kernel_rfl) ?_; simp only [List.take_succ_cons, List.take_zero, List.drop_succ_cons, List.drop_zero]
      repeat (go_big_quiet_step (first | (go_at_call 23; exact ext_same (Around_any _ _ _ C1.out C2.out q1 q2))))
      refine wpQuiet_nil ?_
      rintro _ ⟨y, rfl⟩
      clear w1 w2 w3
      go_upto_region 7 with (fail)
      generalize around c (t.hi - t.lo + 1) = A at *
      generalize hV : World.setCell y.w _ _ = V6
      replace B_x : Hd (Blk V6 (w.heap.size) #[.int .i64 x.lo, .int .i64 x.wide, .int .i64 x.sent, .int .i64 x.took, .int .i64 x.since, .int .i64 x.tick, .int .i64 x.drift] 23) := hid (by rw [← hV]; exact blk_other (ext_blk B_x.out y) (by omega) _ _)
      replace B_t : Hd (Blk V6 (w2.heap.size) #[.int .i64 t.lo, .int .i64 t.hi] 25) := hid (by rw [← hV]; exact blk_other (ext_blk B_t.out y) (by omega) _ _)
      replace B_i : Hd (Blk V6 (w4.heap.size) #[.int .i64 (t.lo + A), .int .i64 t.hi] 25) := hid (by rw [← hV]; exact blk_set (ext_blk B_i.out y) 0 _)
      replace HK : Hd (Keeps (fun _ => False) w V6) := hid (by rw [← hV]; exact (HK.out.trans y.k).setCell (.inr (by simp; omega)) _)
      clear e0 e1 e2 e3 hV
      go_upto_region 9 with (fail)
      go_cut [12] from 62 to 69 (fun u12 wx => CutN V6 #[.int .i64 ((adv t (around x.took 274877906944) (1 + around x.drift 1000000)).lo), .int .i64 ((adv t (around x.took 274877906944) (1 + around x.drift 1000000)).hi)] 25 u12 wx)
      case first =>
        have o_t_0 : V6.cell? ⟨w2.heap.size, 0, none⟩ = some (.int .i64 (t.lo)) := blk_cell B_t.out 0
        have o_t_1 : V6.cell? ⟨w2.heap.size, 1, none⟩ = some (.int .i64 (t.hi)) := blk_cell B_t.out 1
        have o_x_3 : V6.cell? ⟨w.heap.size, 3, none⟩ = some (.int .i64 (x.took)) := blk_cell B_x.out 3
        have o_x_6 : V6.cell? ⟨w.heap.size, 6, none⟩ = some (.int .i64 (x.drift)) := blk_cell B_x.out 6
        have m_0 := World.new_ne V6 _ o_t_0
        have m_1 := World.new_ne V6 _ o_t_1
        have m_2 := World.new_ne V6 _ o_x_3
        have m_3 := World.new_ne V6 _ o_x_6
        go_region_held3 (fun w' => w'.cell? ⟨w2.heap.size, 0, none⟩ = some (.int .i64 (t.lo)) ∧ w'.cell? ⟨w2.heap.size, 1, none⟩ = some (.int .i64 (t.hi)) ∧ w'.cell? ⟨w.heap.size, 3, none⟩ = some (.int .i64 (x.took)) ∧ w'.cell? ⟨w.heap.size, 6, none⟩ = some (.int .i64 (x.drift))) (first | go_keep | (go_split_ands; refine ⟨?_, ?_, ?_, ?_⟩ <;> assumption) | assumption) (first | (go_at_call 16; refine (counted_any _ _ K1.out K2.out).mono ?_; rintro e w1 ⟨rfl, rfl⟩) | (go_at_call 17; refine (drift_any _ _ D1.out D2.out).mono ?_; rintro e w1 ⟨rfl, rfl⟩) | (go_at_call 15; refine (Advance_any t _ _ _ t0 (by omega) (by omega) t2 p0 (by omega) dd de).mono ?_; rintro e wz ⟨rfl, hk⟩; have hkk : Keeps (fun _ => False) V6 wz := Keeps.trans (by repeat (first | (with_reducible assumption) | (with_reducible exact Keeps.refl _ _) | (with_reducible apply Keeps.drewN) | (with_reducible apply Keeps.drew) | (with_reducible apply Keeps.alloc) | refine Keeps.setCell ?_ (by first | (simp; done) | (simp; omega)) _)) hk; have s_0 := keep_cell hkk (fun h => h) o_t_0; have n_0 := World.new_ne wz _ s_0; have s_1 := keep_cell hkk (fun h => h) o_t_1; have n_1 := World.new_ne wz _ s_1; have s_2 := keep_cell hkk (fun h => h) o_x_3; have n_2 := World.new_ne wz _ s_2; have s_3 := keep_cell hkk (fun h => h) o_x_6; have n_3 := World.new_ne wz _ s_3; (try ((have HN := iv_new V6 _ wz hk rfl); obtain ⟨HNB, F0, F1, G0, G1⟩ := HN)); replace hkk := hid hkk; replace hk := hid hk))
        all_goals
          go_wp2_with fail
          go_meet
          first | exact cutN_new hkk.out | exact cutN_old hkk.out (Nat.le_refl _) HNB | exact cutN_drew (cutN_new hkk.out) | exact cutN_drew (cutN_old hkk.out (Nat.le_refl _) HNB)
      case rest =>
        obtain ⟨b_n, rfl, B_n, hk⟩ := hcut
        replace hk := hk.out
        generalize wc = wq7 at *
        replace B_x : Hd (Blk wq7 (w.heap.size) #[.int .i64 x.lo, .int .i64 x.wide, .int .i64 x.sent, .int .i64 x.took, .int .i64 x.since, .int .i64 x.tick, .int .i64 x.drift] 23) := hid (blk_keep B_x.out hk (fun h => h))
        replace B_t : Hd (Blk wq7 (w2.heap.size) #[.int .i64 t.lo, .int .i64 t.hi] 25) := hid (blk_keep B_t.out hk (fun h => h))
        replace B_i : Hd (Blk wq7 (w4.heap.size) #[.int .i64 (t.lo + A), .int .i64 t.hi] 25) := hid (blk_keep B_i.out hk (fun h => h))
        replace HK : Hd (Keeps (fun _ => False) w wq7) := hid (HK.out.trans hk)
        have z7 := hk.size
        clear hk
        have HQ := hid (HP.out _ _ p0 dd HJ.out)
        generalize adv t (around x.took 274877906944) (1 + around x.drift 1000000) = n at *
        have o_n_0 : wq7.cell? ⟨b_n, 0, none⟩ = some (.int .i64 (n.lo)) := blk_cell B_n.out 0
        have o_n_1 : wq7.cell? ⟨b_n, 1, none⟩ = some (.int .i64 (n.hi)) := blk_cell B_n.out 1
        go_wp2_with fail
        clear o_n_0 o_n_1
        refine (Judge_any n f u _).mono ?_
        rintro e w8 ⟨rfl, hk⟩
        replace B_x : Hd (Blk w8 (w.heap.size) #[.int .i64 x.lo, .int .i64 x.wide, .int .i64 x.sent, .int .i64 x.took, .int .i64 x.since, .int .i64 x.tick, .int .i64 x.drift] 23) := hid (blk_keep B_x.out hk (fun h => h))
        replace B_t : Hd (Blk w8 (w2.heap.size) #[.int .i64 t.lo, .int .i64 t.hi] 25) := hid (blk_keep B_t.out hk (fun h => h))
        replace B_i : Hd (Blk w8 (w4.heap.size) #[.int .i64 (t.lo + A), .int .i64 t.hi] 25) := hid (blk_keep B_i.out hk (fun h => h))
        replace B_n : Hd (Blk w8 (b_n) #[.int .i64 n.lo, .int .i64 n.hi] 25) := hid (blk_keep B_n.out hk (fun h => h))
        replace HK : Hd (Keeps (fun _ => False) w w8) := hid (HK.out.trans hk)
        have z8 := hk.size
        clear hk
        rw [HQ.out]
        go_wp2_with fail
        refine (lives_any _).mono ?_
        rintro e w9 ⟨rfl, hk⟩
        replace B_x : Hd (Blk w9 (w.heap.size) #[.int .i64 x.lo, .int .i64 x.wide, .int .i64 x.sent, .int .i64 x.took, .int .i64 x.since, .int .i64 x.tick, .int .i64 x.drift] 23) := hid (blk_keep B_x.out hk (fun h => h))
        replace B_t : Hd (Blk w9 (w2.heap.size) #[.int .i64 t.lo, .int .i64 t.hi] 25) := hid (blk_keep B_t.out hk (fun h => h))
        replace B_i : Hd (Blk w9 (w4.heap.size) #[.int .i64 (t.lo + A), .int .i64 t.hi] 25) := hid (blk_keep B_i.out hk (fun h => h))
        replace B_n : Hd (Blk w9 (b_n) #[.int .i64 n.lo, .int .i64 n.hi] 25) := hid (blk_keep B_n.out hk (fun h => h))
        replace HK : Hd (Keeps (fun _ => False) w w9) := hid (HK.out.trans hk)
        have z9 := hk.size
        clear hk
        go_wp2
        go_ret
        exact ⟨rfl, HK.out⟩
  · have g1 : ¬ u ≤ t.hi := by intro h; unfold judge at hj1; rw [if_pos h] at hj1; omega
    have g2 : t.lo < f := by unfold judge at hj1; rw [if_neg g1] at hj1; split at hj1; assumption; omega
    have HJ := hid hj1
    rw [hj1]
    clear hj1 hjz
    have v1 : decide (f ≤ t.lo) = false := by simp; exact g2
    have o_t_0 : w4.cell? ⟨w2.heap.size, 0, none⟩ = some (.int .i64 (t.lo)) := blk_cell B_t.out 0
    have o_t_1 : w4.cell? ⟨w2.heap.size, 1, none⟩ = some (.int .i64 (t.hi)) := blk_cell B_t.out 1
    go_upto_region 5 with (fail)
    go_upto_region 6 with (fail)
    clear o_t_0 o_t_1
    generalize hW : World.alloc w4 _ = W5
    replace B_x : Hd (Blk W5 (w.heap.size) #[.int .i64 x.lo, .int .i64 x.wide, .int .i64 x.sent, .int .i64 x.took, .int .i64 x.since, .int .i64 x.tick, .int .i64 x.drift] 23) := hid (by rw [← hW]; exact (blk_alloc B_x.out _))
    replace B_t : Hd (Blk W5 (w2.heap.size) #[.int .i64 t.lo, .int .i64 t.hi] 25) := hid (by rw [← hW]; exact (blk_alloc B_t.out _))
    have B_i : Hd (Blk W5 (w4.heap.size) #[.int .i64 t.lo, .int .i64 t.hi] 25) := hid (by rw [← hW]; exact (blk_new _ _ _))
    replace HK : Hd (Keeps (fun _ => False) w W5) := hid (by rw [← hW]; exact (Keeps.alloc (HK.out) _))
    have z5 : w4.heap.size + 1 ≤ W5.heap.size := by rw [← hW]; simp
    clear hW
    have e0 : ∀ y : Ext W5, y.w.cell? ⟨w2.heap.size, 0, none⟩ = some _ := ext_bcell B_t.out 0 rfl
    have e1 : ∀ y : Ext W5, y.w.cell? ⟨w2.heap.size, 1, none⟩ = some _ := ext_bcell B_t.out 1 rfl
    have e2 : ∀ y : Ext W5, y.w.cell? ⟨w4.heap.size, 0, none⟩ = some _ := ext_bcell B_i.out 0 rfl
    have e3 : ∀ y : Ext W5, y.w.frozen? ⟨w4.heap.size, 0, none⟩ = false := ext_bfree B_i.out 0
    have w1 : IntKind.i64.wrap (t.hi - t.lo) = t.hi - t.lo := IntWalk.i64_in _ (by omega)
    have w2 : IntKind.i64.wrap (t.hi - t.lo + 1) = t.hi - t.lo + 1 := IntWalk.i64_in _ (by omega)
    have w3 : IntKind.i64.wrap (t.lo + around c (t.hi - t.lo + 1)) = t.lo + around c (t.hi - t.lo + 1) := IntWalk.i64_in _ (by omega)
    have q1 : 1 ≤ t.hi - t.lo + 1 := by omega
    have q2 : t.hi - t.lo + 1 ≤ 1000000000000000 := by omega
    refine wp_region_ext_tail 12 (by kernel_rfl) (by kernel_rfl) ?_; simp only [List.take_succ_cons, List.take_zero, List.drop_succ_cons, List.drop_zero]
    repeat (go_big_quiet_step (first | (go_at_call 23; exact ext_same (Around_any _ _ _ C1.out C2.out q1 q2))))
    refine wpQuiet_nil ?_
    rintro _ ⟨y, rfl⟩
    clear w1 w2 w3
    go_upto_region 7 with (fail)
    generalize around c (t.hi - t.lo + 1) = A at *
    generalize hV : World.setCell y.w _ _ = V6
    replace B_x : Hd (Blk V6 (w.heap.size) #[.int .i64 x.lo, .int .i64 x.wide, .int .i64 x.sent, .int .i64 x.took, .int .i64 x.since, .int .i64 x.tick, .int .i64 x.drift] 23) := hid (by rw [← hV]; exact blk_other (ext_blk B_x.out y) (by omega) _ _)
    replace B_t : Hd (Blk V6 (w2.heap.size) #[.int .i64 t.lo, .int .i64 t.hi] 25) := hid (by rw [← hV]; exact blk_other (ext_blk B_t.out y) (by omega) _ _)
    replace B_i : Hd (Blk V6 (w4.heap.size) #[.int .i64 (t.lo + A), .int .i64 t.hi] 25) := hid (by rw [← hV]; exact blk_set (ext_blk B_i.out y) 0 _)
    replace HK : Hd (Keeps (fun _ => False) w V6) := hid (by rw [← hV]; exact (HK.out.trans y.k).setCell (.inr (by simp; omega)) _)
    clear e0 e1 e2 e3 hV
    go_upto_region 9 with (fail)
    go_cut [12] from 62 to 69 (fun u12 wx => CutN V6 #[.int .i64 ((adv t (around x.took 274877906944) (1 + around x.drift 1000000)).lo), .int .i64 ((adv t (around x.took 274877906944) (1 + around x.drift 1000000)).hi)] 25 u12 wx)
    case first =>
      have o_t_0 : V6.cell? ⟨w2.heap.size, 0, none⟩ = some (.int .i64 (t.lo)) := blk_cell B_t.out 0
      have o_t_1 : V6.cell? ⟨w2.heap.size, 1, none⟩ = some (.int .i64 (t.hi)) := blk_cell B_t.out 1
      have o_x_3 : V6.cell? ⟨w.heap.size, 3, none⟩ = some (.int .i64 (x.took)) := blk_cell B_x.out 3
      have o_x_6 : V6.cell? ⟨w.heap.size, 6, none⟩ = some (.int .i64 (x.drift)) := blk_cell B_x.out 6
      have m_0 := World.new_ne V6 _ o_t_0
      have m_1 := World.new_ne V6 _ o_t_1
      have m_2 := World.new_ne V6 _ o_x_3
      have m_3 := World.new_ne V6 _ o_x_6
      go_region_held3 (fun w' => w'.cell? ⟨w2.heap.size, 0, none⟩ = some (.int .i64 (t.lo)) ∧ w'.cell? ⟨w2.heap.size, 1, none⟩ = some (.int .i64 (t.hi)) ∧ w'.cell? ⟨w.heap.size, 3, none⟩ = some (.int .i64 (x.took)) ∧ w'.cell? ⟨w.heap.size, 6, none⟩ = some (.int .i64 (x.drift))) (first | go_keep | (go_split_ands; refine ⟨?_, ?_, ?_, ?_⟩ <;> assumption) | assumption) (first | (go_at_call 16; refine (counted_any _ _ K1.out K2.out).mono ?_; rintro e w1 ⟨rfl, rfl⟩) | (go_at_call 17; refine (drift_any _ _ D1.out D2.out).mono ?_; rintro e w1 ⟨rfl, rfl⟩) | (go_at_call 15; refine (Advance_any t _ _ _ t0 (by omega) (by omega) t2 p0 (by omega) dd de).mono ?_; rintro e wz ⟨rfl, hk⟩; have hkk : Keeps (fun _ => False) V6 wz := Keeps.trans (by repeat (first | (with_reducible assumption) | (with_reducible exact Keeps.refl _ _) | (with_reducible apply Keeps.drewN) | (with_reducible apply Keeps.drew) | (with_reducible apply Keeps.alloc) | refine Keeps.setCell ?_ (by first | (simp; done) | (simp; omega)) _)) hk; have s_0 := keep_cell hkk (fun h => h) o_t_0; have n_0 := World.new_ne wz _ s_0; have s_1 := keep_cell hkk (fun h => h) o_t_1; have n_1 := World.new_ne wz _ s_1; have s_2 := keep_cell hkk (fun h => h) o_x_3; have n_2 := World.new_ne wz _ s_2; have s_3 := keep_cell hkk (fun h => h) o_x_6; have n_3 := World.new_ne wz _ s_3; (try ((have HN := iv_new V6 _ wz hk rfl); obtain ⟨HNB, F0, F1, G0, G1⟩ := HN)); replace hkk := hid hkk; replace hk := hid hk))
      all_goals
        go_wp2_with fail
        go_meet
        first | exact cutN_new hkk.out | exact cutN_old hkk.out (Nat.le_refl _) HNB | exact cutN_drew (cutN_new hkk.out) | exact cutN_drew (cutN_old hkk.out (Nat.le_refl _) HNB)
    case rest =>
      obtain ⟨b_n, rfl, B_n, hk⟩ := hcut
      replace hk := hk.out
      generalize wc = wq7 at *
      replace B_x : Hd (Blk wq7 (w.heap.size) #[.int .i64 x.lo, .int .i64 x.wide, .int .i64 x.sent, .int .i64 x.took, .int .i64 x.since, .int .i64 x.tick, .int .i64 x.drift] 23) := hid (blk_keep B_x.out hk (fun h => h))
      replace B_t : Hd (Blk wq7 (w2.heap.size) #[.int .i64 t.lo, .int .i64 t.hi] 25) := hid (blk_keep B_t.out hk (fun h => h))
      replace B_i : Hd (Blk wq7 (w4.heap.size) #[.int .i64 (t.lo + A), .int .i64 t.hi] 25) := hid (blk_keep B_i.out hk (fun h => h))
      replace HK : Hd (Keeps (fun _ => False) w wq7) := hid (HK.out.trans hk)
      have z7 := hk.size
      clear hk
      go_wp2_with fail
      refine (lives_any _).mono ?_
      rintro e w8 ⟨rfl, hk⟩
      replace B_x : Hd (Blk w8 (w.heap.size) #[.int .i64 x.lo, .int .i64 x.wide, .int .i64 x.sent, .int .i64 x.took, .int .i64 x.since, .int .i64 x.tick, .int .i64 x.drift] 23) := hid (blk_keep B_x.out hk (fun h => h))
      replace B_t : Hd (Blk w8 (w2.heap.size) #[.int .i64 t.lo, .int .i64 t.hi] 25) := hid (blk_keep B_t.out hk (fun h => h))
      replace B_i : Hd (Blk w8 (w4.heap.size) #[.int .i64 (t.lo + A), .int .i64 t.hi] 25) := hid (blk_keep B_i.out hk (fun h => h))
      replace B_n : Hd (Blk w8 (b_n) #[.int .i64 ((adv t (around x.took 274877906944) (1 + around x.drift 1000000)).lo), .int .i64 ((adv t (around x.took 274877906944) (1 + around x.drift 1000000)).hi)] 25) := hid (blk_keep B_n.out hk (fun h => h))
      replace HK : Hd (Keeps (fun _ => False) w w8) := hid (HK.out.trans hk)
      have z8 := hk.size
      clear hk
      go_wp2
      go_ret
      exact ⟨rfl, HK.out⟩
  · obtain ⟨g1, g2⟩ : f ≤ t.lo ∧ t.hi < u := hjz.1 hj1
    have HJ := hid hj1
    rw [hj1]
    clear hj1 hjz
    have v1 : decide (f ≤ t.lo) = true := by simp; exact g1
    have v2 : decide (t.hi < u) = true := by simp; exact g2
    have o_t_0 : w4.cell? ⟨w2.heap.size, 0, none⟩ = some (.int .i64 (t.lo)) := blk_cell B_t.out 0
    have o_t_1 : w4.cell? ⟨w2.heap.size, 1, none⟩ = some (.int .i64 (t.hi)) := blk_cell B_t.out 1
    go_upto_region 5 with (fail)
    go_upto_region 6 with (fail)
    clear o_t_0 o_t_1
    generalize hW : World.alloc w4 _ = W5
    replace B_x : Hd (Blk W5 (w.heap.size) #[.int .i64 x.lo, .int .i64 x.wide, .int .i64 x.sent, .int .i64 x.took, .int .i64 x.since, .int .i64 x.tick, .int .i64 x.drift] 23) := hid (by rw [← hW]; exact (blk_alloc B_x.out _))
    replace B_t : Hd (Blk W5 (w2.heap.size) #[.int .i64 t.lo, .int .i64 t.hi] 25) := hid (by rw [← hW]; exact (blk_alloc B_t.out _))
    have B_i : Hd (Blk W5 (w4.heap.size) #[.int .i64 t.lo, .int .i64 t.hi] 25) := hid (by rw [← hW]; exact (blk_new _ _ _))
    replace HK : Hd (Keeps (fun _ => False) w W5) := hid (by rw [← hW]; exact (Keeps.alloc (HK.out) _))
    have z5 : w4.heap.size + 1 ≤ W5.heap.size := by rw [← hW]; simp
    clear hW
    have e0 : ∀ y : Ext W5, y.w.cell? ⟨w2.heap.size, 0, none⟩ = some _ := ext_bcell B_t.out 0 rfl
    have e1 : ∀ y : Ext W5, y.w.cell? ⟨w2.heap.size, 1, none⟩ = some _ := ext_bcell B_t.out 1 rfl
    have e2 : ∀ y : Ext W5, y.w.cell? ⟨w4.heap.size, 0, none⟩ = some _ := ext_bcell B_i.out 0 rfl
    have e3 : ∀ y : Ext W5, y.w.frozen? ⟨w4.heap.size, 0, none⟩ = false := ext_bfree B_i.out 0
    have w1 : IntKind.i64.wrap (t.hi - t.lo) = t.hi - t.lo := IntWalk.i64_in _ (by omega)
    have w2 : IntKind.i64.wrap (t.hi - t.lo + 1) = t.hi - t.lo + 1 := IntWalk.i64_in _ (by omega)
    have w3 : IntKind.i64.wrap (t.lo + around c (t.hi - t.lo + 1)) = t.lo + around c (t.hi - t.lo + 1) := IntWalk.i64_in _ (by omega)
    have q1 : 1 ≤ t.hi - t.lo + 1 := by omega
    have q2 : t.hi - t.lo + 1 ≤ 1000000000000000 := by omega
    refine wp_region_ext_tail 12 (by kernel_rfl) (by kernel_rfl) ?_; simp only [List.take_succ_cons, List.take_zero, List.drop_succ_cons, List.drop_zero]
    repeat (go_big_quiet_step (first | (go_at_call 23; exact ext_same (Around_any _ _ _ C1.out C2.out q1 q2))))
    refine wpQuiet_nil ?_
    rintro _ ⟨y, rfl⟩
    clear w1 w2 w3
    go_upto_region 7 with (fail)
    generalize around c (t.hi - t.lo + 1) = A at *
    generalize hV : World.setCell y.w _ _ = V6
    replace B_x : Hd (Blk V6 (w.heap.size) #[.int .i64 x.lo, .int .i64 x.wide, .int .i64 x.sent, .int .i64 x.took, .int .i64 x.since, .int .i64 x.tick, .int .i64 x.drift] 23) := hid (by rw [← hV]; exact blk_other (ext_blk B_x.out y) (by omega) _ _)
    replace B_t : Hd (Blk V6 (w2.heap.size) #[.int .i64 t.lo, .int .i64 t.hi] 25) := hid (by rw [← hV]; exact blk_other (ext_blk B_t.out y) (by omega) _ _)
    replace B_i : Hd (Blk V6 (w4.heap.size) #[.int .i64 (t.lo + A), .int .i64 t.hi] 25) := hid (by rw [← hV]; exact blk_set (ext_blk B_i.out y) 0 _)
    replace HK : Hd (Keeps (fun _ => False) w V6) := hid (by rw [← hV]; exact (HK.out.trans y.k).setCell (.inr (by simp; omega)) _)
    clear e0 e1 e2 e3 hV
    have o_i_0 : V6.cell? ⟨w4.heap.size, 0, none⟩ = some (.int .i64 (t.lo + A)) := blk_cell B_i.out 0
    have o_i_1 : V6.cell? ⟨w4.heap.size, 1, none⟩ = some (.int .i64 (t.hi)) := blk_cell B_i.out 1
    go_wp2_with fail
    clear o_i_0 o_i_1
    refine (Judge_any ⟨t.lo + A, t.hi⟩ f u _).mono ?_
    rintro e w7 ⟨rfl, hk⟩
    replace B_x : Hd (Blk w7 (w.heap.size) #[.int .i64 x.lo, .int .i64 x.wide, .int .i64 x.sent, .int .i64 x.took, .int .i64 x.since, .int .i64 x.tick, .int .i64 x.drift] 23) := hid (blk_keep B_x.out hk (fun h => h))
    replace B_t : Hd (Blk w7 (w2.heap.size) #[.int .i64 t.lo, .int .i64 t.hi] 25) := hid (blk_keep B_t.out hk (fun h => h))
    replace B_i : Hd (Blk w7 (w4.heap.size) #[.int .i64 (t.lo + A), .int .i64 t.hi] 25) := hid (blk_keep B_i.out hk (fun h => h))
    replace HK : Hd (Keeps (fun _ => False) w w7) := hid (HK.out.trans hk)
    have z7 := hk.size
    clear hk
    rw [show judge ⟨t.lo + A, t.hi⟩ f u = 0 from (judge_zero _ _ _).2 ⟨by simp only; omega, g2⟩]
    go_upto_region 9 with (fail)
    go_cut [12] from 62 to 69 (fun u12 wx => CutN w7 #[.int .i64 ((adv t (around x.took 274877906944) (1 + around x.drift 1000000)).lo), .int .i64 ((adv t (around x.took 274877906944) (1 + around x.drift 1000000)).hi)] 25 u12 wx)
    case first =>
      have o_t_0 : w7.cell? ⟨w2.heap.size, 0, none⟩ = some (.int .i64 (t.lo)) := blk_cell B_t.out 0
      have o_t_1 : w7.cell? ⟨w2.heap.size, 1, none⟩ = some (.int .i64 (t.hi)) := blk_cell B_t.out 1
      have o_x_3 : w7.cell? ⟨w.heap.size, 3, none⟩ = some (.int .i64 (x.took)) := blk_cell B_x.out 3
      have o_x_6 : w7.cell? ⟨w.heap.size, 6, none⟩ = some (.int .i64 (x.drift)) := blk_cell B_x.out 6
      have m_0 := World.new_ne w7 _ o_t_0
      have m_1 := World.new_ne w7 _ o_t_1
      have m_2 := World.new_ne w7 _ o_x_3
      have m_3 := World.new_ne w7 _ o_x_6
      go_region_held3 (fun w' => w'.cell? ⟨w2.heap.size, 0, none⟩ = some (.int .i64 (t.lo)) ∧ w'.cell? ⟨w2.heap.size, 1, none⟩ = some (.int .i64 (t.hi)) ∧ w'.cell? ⟨w.heap.size, 3, none⟩ = some (.int .i64 (x.took)) ∧ w'.cell? ⟨w.heap.size, 6, none⟩ = some (.int .i64 (x.drift))) (first | go_keep | (go_split_ands; refine ⟨?_, ?_, ?_, ?_⟩ <;> assumption) | assumption) (first | (go_at_call 16; refine (counted_any _ _ K1.out K2.out).mono ?_; rintro e w1 ⟨rfl, rfl⟩) | (go_at_call 17; refine (drift_any _ _ D1.out D2.out).mono ?_; rintro e w1 ⟨rfl, rfl⟩) | (go_at_call 15; refine (Advance_any t _ _ _ t0 (by omega) (by omega) t2 p0 (by omega) dd de).mono ?_; rintro e wz ⟨rfl, hk⟩; have hkk : Keeps (fun _ => False) w7 wz := Keeps.trans (by repeat (first | (with_reducible assumption) | (with_reducible exact Keeps.refl _ _) | (with_reducible apply Keeps.drewN) | (with_reducible apply Keeps.drew) | (with_reducible apply Keeps.alloc) | refine Keeps.setCell ?_ (by first | (simp; done) | (simp; omega)) _)) hk; have s_0 := keep_cell hkk (fun h => h) o_t_0; have n_0 := World.new_ne wz _ s_0; have s_1 := keep_cell hkk (fun h => h) o_t_1; have n_1 := World.new_ne wz _ s_1; have s_2 := keep_cell hkk (fun h => h) o_x_3; have n_2 := World.new_ne wz _ s_2; have s_3 := keep_cell hkk (fun h => h) o_x_6; have n_3 := World.new_ne wz _ s_3; (try ((have HN := iv_new w7 _ wz hk rfl); obtain ⟨HNB, F0, F1, G0, G1⟩ := HN)); replace hkk := hid hkk; replace hk := hid hk))
      all_goals
        go_wp2_with fail
        go_meet
        first | exact cutN_new hkk.out | exact cutN_old hkk.out (Nat.le_refl _) HNB | exact cutN_drew (cutN_new hkk.out) | exact cutN_drew (cutN_old hkk.out (Nat.le_refl _) HNB)
    case rest =>
      obtain ⟨b_n, rfl, B_n, hk⟩ := hcut
      replace hk := hk.out
      generalize wc = wq8 at *
      replace B_x : Hd (Blk wq8 (w.heap.size) #[.int .i64 x.lo, .int .i64 x.wide, .int .i64 x.sent, .int .i64 x.took, .int .i64 x.since, .int .i64 x.tick, .int .i64 x.drift] 23) := hid (blk_keep B_x.out hk (fun h => h))
      replace B_t : Hd (Blk wq8 (w2.heap.size) #[.int .i64 t.lo, .int .i64 t.hi] 25) := hid (blk_keep B_t.out hk (fun h => h))
      replace B_i : Hd (Blk wq8 (w4.heap.size) #[.int .i64 (t.lo + A), .int .i64 t.hi] 25) := hid (blk_keep B_i.out hk (fun h => h))
      replace HK : Hd (Keeps (fun _ => False) w wq8) := hid (HK.out.trans hk)
      have z8 := hk.size
      clear hk
      go_wp2_with fail
      refine (lives_any _).mono ?_
      rintro e w9 ⟨rfl, hk⟩
      replace B_x : Hd (Blk w9 (w.heap.size) #[.int .i64 x.lo, .int .i64 x.wide, .int .i64 x.sent, .int .i64 x.took, .int .i64 x.since, .int .i64 x.tick, .int .i64 x.drift] 23) := hid (blk_keep B_x.out hk (fun h => h))
      replace B_t : Hd (Blk w9 (w2.heap.size) #[.int .i64 t.lo, .int .i64 t.hi] 25) := hid (blk_keep B_t.out hk (fun h => h))
      replace B_i : Hd (Blk w9 (w4.heap.size) #[.int .i64 (t.lo + A), .int .i64 t.hi] 25) := hid (blk_keep B_i.out hk (fun h => h))
      replace B_n : Hd (Blk w9 (b_n) #[.int .i64 ((adv t (around x.took 274877906944) (1 + around x.drift 1000000)).lo), .int .i64 ((adv t (around x.took 274877906944) (1 + around x.drift 1000000)).hi)] 25) := hid (blk_keep B_n.out hk (fun h => h))
      replace HK : Hd (Keeps (fun _ => False) w w9) := hid (HK.out.trans hk)
      have z9 := hk.size
      clear hk
      go_wp2
      go_ret
      exact ⟨rfl, HK.out⟩

end Go.Proofs.Ytjdalhnffhoknaa
