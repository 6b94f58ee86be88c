/- The walk of the reference's Correlate. -/
import Derived.Test.YtjdalhnffhoknaaClockC
import Derived.Deep.DrawnRows
import Derived.Deep.Cut
import Derived.Deep.CutRange
namespace Go.Proofs.Ytjdalhnffhoknaa
open Go.RowKit
attribute [local go_sem ↓] Go.wp_at_zero Go.wp_at_succ
structure IvNew (k : Nat) (w3 : World) : Prop where
  b : Hd (Blk w3 k #[.int .i64 0, .int .i64 0] 25)
  f0 : w3.frozen? ⟨k, 0, none⟩ = false
  f1 : w3.frozen? ⟨k, 1, none⟩ = false
  g0 : w3.cell? ⟨k, 0, none⟩ = some (.int .i64 0)
  g1 : w3.cell? ⟨k, 1, none⟩ = some (.int .i64 0)
theorem iv_new (W V w1 : World) (h : Keeps (fun _ => False) V w1) (hV : V.heap = (W.alloc (.cells #[.int .i64 0, .int .i64 0] 25)).heap) : IvNew W.heap.size w1 := by
  have HG : Blk V W.heap.size #[.int .i64 0, .int .i64 0] 25 := by unfold Blk; rw [hV]; exact blk_new W _ _
  have HG := blk_keep HG h (fun h => h)
  exact ⟨hid HG, blk_free HG 0, blk_free HG 1, blk_cell HG 0, blk_cell HG 1⟩
def CutR (x t : Iv) (w : World) (u : Value) (wx : World) : Prop := ∃ bx : Nat, u = .pointer (some ⟨bx, 0, none⟩) ∧ w.heap.size + 3 ≤ bx ∧ Hd (Blk wx w.heap.size #[.int .i64 t.lo, .int .i64 t.hi] 25) ∧ Hd (Blk wx (w.heap.size + 2) #[.int .i64 0, .int .i64 0] 25)
      ∧ Hd (Blk wx bx #[.int .i64 x.lo, .int .i64 x.hi] 25) ∧ Hd (Keeps (fun _ => False) w wx)
theorem cutR_new {x t : Iv} {w W w1 : World} (hk : Keeps (fun _ => False) W w1) (h0 : Hd (Blk W w.heap.size #[.int .i64 t.lo, .int .i64 t.hi] 25)) (h2 : Hd (Blk W (w.heap.size + 2) #[.int .i64 0, .int .i64 0] 25)) (hK : Hd (Keeps (fun _ => False) w W)) (hz : w.heap.size + 3 ≤ W.heap.size) :
    CutR x t w (.pointer (some ⟨w1.heap.size, 0, none⟩)) (w1.alloc (.cells #[.int .i64 x.lo, .int .i64 x.hi] 25)) :=
  ⟨_, rfl, Nat.le_trans hz hk.size, hid (blk_alloc (blk_keep h0.out hk (fun h => h)) _), hid (blk_alloc (blk_keep h2.out hk (fun h => h)) _), hid (blk_new _ _ _), hid ((hK.out.trans hk).alloc _)⟩
theorem cutR_old {x t : Iv} {w W w1 : World} (hk : Keeps (fun _ => False) W w1) (h0 : Hd (Blk W w.heap.size #[.int .i64 t.lo, .int .i64 t.hi] 25)) (h2 : Hd (Blk W (w.heap.size + 2) #[.int .i64 0, .int .i64 0] 25)) (hK : Hd (Keeps (fun _ => False) w W)) (hz : w.heap.size + 3 ≤ W.heap.size)
    (hb : Hd (Blk w1 W.heap.size #[.int .i64 0, .int .i64 0] 25)) :
    CutR x t w (.pointer (some ⟨W.heap.size, 0, none⟩)) ((w1.setCell ⟨W.heap.size, 0, none⟩ (.int .i64 x.lo)).setCell ⟨W.heap.size, 1, none⟩ (.int .i64 x.hi)) := by
  have hle : w.heap.size ≤ W.heap.size := by omega
  exact ⟨_, rfl, hz, hid (blk_other (blk_other (blk_keep h0.out hk (fun h => h)) (by omega) _ _) (by omega) _ _), hid (blk_other (blk_other (blk_keep h2.out hk (fun h => h)) (by omega) _ _) (by omega) _ _), hid (blk_set (blk_set hb.out 0 _) 1 _),
    hid (((hK.out.trans hk).setCell (.inr hle) _).setCell (.inr hle) _)⟩
def MMaxR (x t : Iv) (w : World) (u : Value) (wx : World) : Prop := ∃ (lo hi : Int) (bb : Nat), u = .pointer (some ⟨bb, 0, none⟩) ∧ lo = max t.lo x.lo ∧ hi = min t.hi x.hi ∧ Blk wx bb #[.int .i64 lo, .int .i64 hi] 25 ∧ Blk wx (w.heap.size + 2) #[.int .i64 0, .int .i64 0] 25 ∧ Keeps (fun _ => False) w wx
theorem ret_corR {t x : Iv} {lo hi : Int} (h1 : lo = max t.lo x.lo) (h2 : hi = min t.hi x.hi) (h3 : lo ≤ hi) :
    Ending.returned (.tuple #[.agg #[.int .i64 lo, .int .i64 hi], .int .i64 0]) = .returned (.tuple #[.agg #[.int .i64 (if (meet t x).hi < (meet t x).lo then ((⟨0, 0⟩ : Iv), (22 : Int)) else (meet t x, 0)).1.lo, .int .i64 (if (meet t x).hi < (meet t x).lo then ((⟨0, 0⟩ : Iv), (22 : Int)) else (meet t x, 0)).1.hi], .int .i64 (if (meet t x).hi < (meet t x).lo then ((⟨0, 0⟩ : Iv), (22 : Int)) else (meet t x, 0)).2]) :=
  ret_cor (by omega) (by omega) h3
set_option maxRecDepth 100000 in set_option maxHeartbeats 1000000 in
theorem RCorrelate_bad (t : Iv) (s : Sm) (now d : Int) (w : World) (hbad : s.bad now) :
    Calls Try.prog 22 #[.agg #[.int .i64 t.lo, .int .i64 t.hi], .agg #[.int .i64 s.sent, .int .i64 s.recv, .int .i64 s.tick], .int .i64 now, .int .i64 d] w fun e w' => RetCor (cor t s now d) w e w' := by
  have HE : Hd (cor t s now d = (⟨0, 0⟩, 1)) := hid (by unfold cor; rw [if_pos hbad])
  unfold Sm.bad at hbad
  rcases hbad with h | h | h | h | h
  all_goals
    go_enter Try.func22, Try.ntmps22
    go_wp2
  all_goals
    refine bodyPost_ret (v := .tuple #[.agg #[.int .i64 0, .int .i64 0], .int .i64 1]) (by simp [results, Try.results22, go_sem]) rfl ⟨by rw [HE.out], ?_⟩
    repeat (first | (with_reducible assumption) | (with_reducible exact Keeps.refl _ _) | (with_reducible apply Keeps.drewN) | (with_reducible apply Keeps.drew) | (with_reducible apply Keeps.alloc) | refine Keeps.setCell ?_ (by first | (simp; done) | (simp; omega)) _)
set_option maxRecDepth 100000 in set_option maxHeartbeats 1000000 in
theorem RCorrelate_ok (t : Iv) (s : Sm) (now d : Int) (w : World) (hbad : ¬ s.bad now) (hn : now ≤ 1000000000000) (h6 : 1 ≤ d) (h7 : d ≤ 1000000000) :
    Calls Try.prog 22 #[.agg #[.int .i64 t.lo, .int .i64 t.hi], .agg #[.int .i64 s.sent, .int .i64 s.recv, .int .i64 s.tick], .int .i64 now, .int .i64 d] w fun e w' => RetCor (cor t s now d) w e w' := by
  have HE : Hd (cor t s now d = if (meet t (corIv s now d)).hi < (meet t (corIv s now d)).lo then (⟨0, 0⟩, 22) else (meet t (corIv s now d), 0)) := hid (by unfold cor; rw [if_neg hbad])
  obtain ⟨b1, b2, b3, b4, b5⟩ : 0 ≤ s.sent ∧ s.sent ≤ s.recv ∧ s.recv ≤ now ∧ 0 ≤ s.tick ∧ s.tick ≤ 1000000 := by unfold Sm.bad at hbad; omega
  clear hbad
  have t1 : s.recv ≤ 1000000000000 := by omega
  have c0 := ceil_nonneg (show 0 ≤ s.recv - s.sent by omega) h6
  have c1 := ceil_le (show 0 ≤ s.recv - s.sent by omega) h6
  go_enter Try.func22, Try.ntmps22
  go_upto_region 4 with (fail)
  generalize hW : World.alloc (World.alloc (World.alloc w _) _) _ = W
  have B0 : Blk W w.heap.size #[.int .i64 t.lo, .int .i64 t.hi] 25 := by rw [← hW]; exact blk_alloc (blk_alloc (blk_new _ _ _) _) _
  have B1 : Blk W (w.heap.size + 1) #[.int .i64 s.sent, .int .i64 s.recv, .int .i64 s.tick] 32 := by rw [← hW]; exact blk_alloc (blk_new' _ _ _ _ (by simp)) _
  have B2 : Blk W (w.heap.size + 2) #[.int .i64 0, .int .i64 0] 25 := by rw [← hW]; exact blk_new' _ _ _ _ (by simp)
  have HK : Hd (Keeps (fun _ => False) w W) := hid (by rw [← hW]; repeat (first | (with_reducible assumption) | (with_reducible exact Keeps.refl _ _) | (with_reducible apply Keeps.drewN) | (with_reducible apply Keeps.drew) | (with_reducible apply Keeps.alloc) | refine Keeps.setCell ?_ (by first | (simp; done) | (simp; omega)) _))
  have hz : w.heap.size + 3 ≤ W.heap.size := blk_lt B2
  clear hW
  have HB0 := hid B0; have HB1 := hid B1; have HB2 := hid B2
  clear B0 B1 B2
  go_cut [11] from 45 to 62 (fun u11 wx => CutR (corIv s now d) t w u11 wx)
  case first =>
    have W1 : IntKind.i64.wrap (s.tick + (s.recv - s.sent)) = s.tick + (s.recv - s.sent) := IntWalk.i64_in _ (by omega)
    have W2 : IntKind.i64.wrap (s.tick + (s.recv - s.sent) + ceil (s.recv - s.sent) d) = s.tick + (s.recv - s.sent) + ceil (s.recv - s.sent) d := IntWalk.i64_in _ (by omega)
    have W3 : IntKind.i64.wrap (now - s.recv) = now - s.recv := IntWalk.i64_in _ (by omega)
    have g0 : W.cell? ⟨w.heap.size + 1, 1, none⟩ = some (.int .i64 s.recv) := blk_cell HB1.out 1
    have g1 : W.cell? ⟨w.heap.size + 1, 2, none⟩ = some (.int .i64 s.tick) := blk_cell HB1.out 2
    have m0 := World.new_ne W _ g0
    have m1 := World.new_ne W _ g1
    have p0 : 0 ≤ s.recv - s.sent := by omega
    have p1 : s.recv - s.sent ≤ 1000000000000 := by omega
    have p2 : 0 ≤ now - s.recv := by omega
    have p3 : now - s.recv ≤ 1000000000000 := by omega
    go_region_held3 (fun w' => w'.cell? ⟨w.heap.size + 1, 1, none⟩ = some (.int .i64 s.recv) ∧ w'.cell? ⟨w.heap.size + 1, 2, none⟩ = some (.int .i64 s.tick)) (first | go_keep | (refine ⟨?_, ?_⟩ <;> assumption))
      (first | (go_at_call 47; refine (Error_any _ d _ p0 p1 h6 h7).mono ?_; rintro e w1 ⟨rfl, md, rfl⟩) | (go_at_call 48; refine (Limit_any _ _).mono ?_; rintro e w1 ⟨rfl, rfl⟩) | (go_at_call 18; refine (RAdvance_any ⟨s.tick, lim (s.tick + (s.recv - s.sent) + ceil (s.recv - s.sent) d)⟩ (now - s.recv) d _ b4 b5 (lim_lo _) (lim_hi _) p2 p3 h6 h7).mono ?_; rintro e w1 ⟨rfl, hk⟩; have hkk : Keeps (fun _ => False) W w1 := Keeps.trans (by repeat (first | (with_reducible assumption) | (with_reducible exact Keeps.refl _ _) | (with_reducible apply Keeps.drewN) | (with_reducible apply Keeps.drew) | (with_reducible apply Keeps.alloc) | refine Keeps.setCell ?_ (by first | (simp; done) | (simp; omega)) _)) hk; have s0 := keep_cell hkk (fun h => h) g0; have s1 := keep_cell hkk (fun h => h) g1; have m2 := World.new_ne w1 _ s0; have m3 := World.new_ne w1 _ s1; (try ((have HN := iv_new W _ w1 hk rfl); obtain ⟨HNB, F0, F1, G0, G1⟩ := HN)); replace hkk := hid hkk; replace hk := hid hk))
    all_goals
      go_wp2_with fail
      go_meet
      first
        | exact cutR_new hkk.out HB0 HB2 HK hz
        | exact cutR_old hkk.out HB0 HB2 HK hz HNB
  case rest =>
    obtain ⟨bx, rfl, hbx, B0, B2, B3, HK1⟩ := hcut
    have hx : Hd (corIv s now d = corIv s now d) := hid rfl
    generalize corIv s now d = x at *
    clear hx HB0 HB1 HB2 hz HK
    have g0 : wc.cell? ⟨w.heap.size, 0, none⟩ = some (.int .i64 t.lo) := blk_cell B0.out 0
    have g1 : wc.cell? ⟨w.heap.size, 1, none⟩ = some (.int .i64 t.hi) := blk_cell B0.out 1
    have g2 : wc.cell? ⟨bx, 0, none⟩ = some (.int .i64 _) := blk_cell B3.out 0
    have g3 : wc.cell? ⟨bx, 1, none⟩ = some (.int .i64 _) := blk_cell B3.out 1
    go_upto_region 5 with (fail)
    go_cut [12] from 63 to 73 (fun u12 wx => MMaxR x t w u12 wx)
    case first =>
      go_wp2_with fail
      all_goals
        go_meet
        refine ⟨_, _, _, rfl, ?_, ?_, blk_new _ _ _, blk_alloc B2.out _, HK1.out.alloc _⟩
        · omega
        · omega
    case rest =>
      obtain ⟨lo, hi, bb, rfl, hlo, hhi, E3, E2, K3⟩ := hcut
      have HLO := hid hlo; have HHI := hid hhi
      clear g0 g1 g2 g3 hlo hhi
      replace E3 := hid E3; replace E2 := hid E2; replace K3 := hid K3
      have g2 : wc.cell? ⟨bb, 0, none⟩ = some (.int .i64 _) := blk_cell E3.out 0
      have g3 : wc.cell? ⟨bb, 1, none⟩ = some (.int .i64 _) := blk_cell E3.out 1
      have g6 : wc.cell? ⟨w.heap.size + 2, 0, none⟩ = some (.int .i64 0) := blk_cell E2.out 0
      have g7 : wc.cell? ⟨w.heap.size + 2, 1, none⟩ = some (.int .i64 0) := blk_cell E2.out 1
      have g8 : wc.frozen? ⟨w.heap.size + 2, 0, none⟩ = false := blk_free E2.out 0
      have g9 : wc.frozen? ⟨w.heap.size + 2, 1, none⟩ = false := blk_free E2.out 1
      rcases Int.lt_or_le hi lo with m | m
      · obtain ⟨KF, F2⟩ := fin2 K3.out (b := w.heap.size + 2) (by omega) E2.out (.int .i64 0) (.int .i64 0)
        have r0 := blk_cell F2 0
        have r1 := blk_cell F2 1
        have HKF := hid KF
        clear KF F2
        go_wp2
        refine bodyPost_ret (v := .tuple #[.agg #[.int .i64 0, .int .i64 0], .int .i64 22]) (by simp [results, Try.results22, go_sem, r0, r1]) rfl ⟨by rw [HE.out]; exact ret_cor2 (by have := HLO.out; have := HHI.out; omega), HKF.out⟩
      · obtain ⟨KF, F2⟩ := fin2 K3.out (b := w.heap.size + 2) (by omega) E2.out (.int .i64 lo) (.int .i64 hi)
        have r0 := blk_cell F2 0
        have r1 := blk_cell F2 1
        have HKF := hid KF
        clear KF F2
        go_wp2
        refine bodyPost_ret (v := .tuple #[.agg #[.int .i64 lo, .int .i64 hi], .int .i64 0]) (by simp [results, Try.results22, go_sem, r0, r1]) rfl ⟨by rw [HE.out]; exact ret_corR HLO.out HHI.out m, HKF.out⟩
end Go.Proofs.Ytjdalhnffhoknaa
