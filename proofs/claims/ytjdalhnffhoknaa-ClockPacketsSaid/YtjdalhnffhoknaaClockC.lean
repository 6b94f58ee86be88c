/- The walk of the program's Correlate. -/
import Derived.Test.YtjdalhnffhoknaaClockB
import Derived.Deep.DrawnRows
import Derived.Deep.Cut
import Derived.Deep.CutRange
namespace Go.Proofs.Ytjdalhnffhoknaa
open Go.RowKit
attribute [local go_sem ↓] Go.wp_at_zero Go.wp_at_succ
theorem ret_cor {t x : Iv} {lo hi : Int} (h1 : lo = max x.lo t.lo) (h2 : hi = min x.hi t.hi) (h3 : lo ≤ hi) :
    Ending.returned (.tuple #[.agg #[.int .i64 lo, .int .i64 hi], .int .i64 0]) = .returned (.tuple #[.agg #[.int .i64 (if (meet t x).hi < (meet t x).lo then ((⟨0, 0⟩ : Iv), (22 : Int)) else (meet t x, 0)).1.lo, .int .i64 (if (meet t x).hi < (meet t x).lo then ((⟨0, 0⟩ : Iv), (22 : Int)) else (meet t x, 0)).1.hi], .int .i64 (if (meet t x).hi < (meet t x).lo then ((⟨0, 0⟩ : Iv), (22 : Int)) else (meet t x, 0)).2]) := by
  subst h1 h2
  unfold meet
  simp only
  rw [if_neg (by omega)]
theorem ret_cor2 {t x : Iv} (h3 : min x.hi t.hi < max x.lo t.lo) :
    Ending.returned (.tuple #[.agg #[.int .i64 0, .int .i64 0], .int .i64 22]) = .returned (.tuple #[.agg #[.int .i64 (if (meet t x).hi < (meet t x).lo then ((⟨0, 0⟩ : Iv), (22 : Int)) else (meet t x, 0)).1.lo, .int .i64 (if (meet t x).hi < (meet t x).lo then ((⟨0, 0⟩ : Iv), (22 : Int)) else (meet t x, 0)).1.hi], .int .i64 (if (meet t x).hi < (meet t x).lo then ((⟨0, 0⟩ : Iv), (22 : Int)) else (meet t x, 0)).2]) := by
  unfold meet
  simp only
  rw [if_pos h3]
def MMax (x t : Iv) (b : Nat) (T : TypeId) (wx : World) : Prop := ∃ lo hi : Int, lo = max x.lo t.lo ∧ hi = min x.hi t.hi ∧ Blk wx b #[.int .i64 lo, .int .i64 hi] T
set_option maxRecDepth 100000 in set_option maxHeartbeats 1000000 in
theorem Correlate_ok (t : Iv) (s : Sm) (now d : Int) (w : World) (hbad : ¬ s.bad now) (hn : now ≤ 1000000000000) (h6 : 1 ≤ d) (h7 : d ≤ 1000000000) :
    Calls Try.prog 21 #[.agg #[.int .i64 t.lo, .int .i64 t.hi], .agg #[.int .i64 s.sent, .int .i64 s.recv, .int .i64 s.tick], .int .i64 now, .int .i64 d] w fun e w' => RetCor (cor t s now d) w e w' := by
  have HE : Hd (cor t s now d = if (meet t (corIv s now d)).hi < (meet t (corIv s now d)).lo then (⟨0, 0⟩, 22) else (meet t (corIv s now d), 0)) := hid (by unfold cor; rw [if_neg hbad])
  obtain ⟨b1, b2, b3, b4, b5⟩ : 0 ≤ s.sent ∧ s.sent ≤ s.recv ∧ s.recv ≤ now ∧ 0 ≤ s.tick ∧ s.tick ≤ 1000000 := by unfold Sm.bad at hbad; omega
  clear hbad
  have t1 : s.recv ≤ 1000000000000 := by omega
  have c0 := ceil_nonneg (show 0 ≤ s.recv - s.sent by omega) h6
  have c1 := ceil_le (show 0 ≤ s.recv - s.sent by omega) h6
  go_enter Try.func21, Try.ntmps21
  go_upto_region 4 with (fail)
  go_cut [11] from 44 to 55 (fun u11 wx => u11 = .pointer (some ⟨w.heap.size + 3, 0, none⟩) ∧ Hd (Blk wx w.heap.size #[.int .i64 t.lo, .int .i64 t.hi] 25) ∧ Hd (Blk wx (w.heap.size + 1) #[.int .i64 s.sent, .int .i64 s.recv, .int .i64 s.tick] 32) ∧ Hd (Blk wx (w.heap.size + 2) #[.int .i64 0, .int .i64 0] 25)
      ∧ Hd (Blk wx (w.heap.size + 3) #[.int .i64 s.tick, .int .i64 (lim (s.tick + (s.recv - s.sent) + ceil (s.recv - s.sent) d))] 25) ∧ Hd (Keeps (fun _ => False) w wx))
  case first =>
    have W1 : IntKind.i64.wrap (s.tick + (s.recv - s.sent)) = s.tick + (s.recv - s.sent) := IntWalk.i64_in _ (by omega)
    have W2 : IntKind.i64.wrap (s.tick + (s.recv - s.sent) + ceil (s.recv - s.sent) d) = s.tick + (s.recv - s.sent) + ceil (s.recv - s.sent) d := IntWalk.i64_in _ (by omega)
    go_region_held3 (fun w' => w'.cell? ⟨w.heap.size + 1, 2, none⟩ = some (.int .i64 s.tick)) (go_keep) (first | (go_at_call 45; refine (errs_any _ d _ (by omega) (by omega) h6 h7).mono ?_; rintro e w1 ⟨rfl, rfl⟩) | (go_at_call 46; refine (limited_any _ _).mono ?_; rintro e w1 ⟨rfl, rfl⟩))
    all_goals
      go_wp2_with fail
      go_meet
      refine ⟨rfl, hid ?_, hid ?_, hid ?_, hid ?_, hid ?_⟩
      · exact blk_drew (blk_alloc (blk_alloc (blk_alloc (blk_new _ _ _) _) _) _)
      · exact blk_drew (blk_alloc (blk_alloc (blk_new' _ _ _ _ (by simp)) _) _)
      · exact blk_drew (blk_alloc (blk_new' _ _ _ _ (by simp)) _)
      · exact blk_drew (blk_new' _ _ _ _ (by simp))
      · repeat (first | (with_reducible assumption) | (with_reducible exact Keeps.refl _ _) | (with_reducible apply Keeps.drewN) | (with_reducible apply Keeps.drew) | (with_reducible apply Keeps.alloc) | refine Keeps.setCell ?_ (by first | (simp; done) | (simp; omega)) _)
  case rest =>
    obtain ⟨rfl, B0, B1, B2, B3, HK⟩ := hcut
    have q0 : wc.cell? ⟨w.heap.size + 3, 0, none⟩ = some (.int .i64 _) := blk_cell B3.out 0
    have q1 : wc.cell? ⟨w.heap.size + 3, 1, none⟩ = some (.int .i64 _) := blk_cell B3.out 1
    have q2 : wc.cell? ⟨w.heap.size + 1, 1, none⟩ = some (.int .i64 _) := blk_cell B1.out 1
    go_wp2_with fail
    refine (Advance_any ⟨s.tick, lim (s.tick + (s.recv - s.sent) + ceil (s.recv - s.sent) d)⟩ (now - s.recv) d _ b4 b5 (lim_lo _) (lim_hi _) (by omega) (by omega) h6 h7).mono ?_
    rintro e w1 ⟨rfl, hk⟩
    have hx : Hd (corIv s now d = adv ⟨s.tick, lim (s.tick + (s.recv - s.sent) + ceil (s.recv - s.sent) d)⟩ (now - s.recv) d) := hid rfl
    clear q0 q1 q2
    generalize adv ⟨s.tick, lim (s.tick + (s.recv - s.sent) + ceil (s.recv - s.sent) d)⟩ (now - s.recv) d = x at *
    have C0 := blk_keep B0.out hk (fun h => h)
    have C2 := blk_keep B2.out hk (fun h => h)
    have C3 := blk_keep B3.out hk (fun h => h)
    have HK1 := hid (HK.out.trans hk)
    clear B0 B1 B2 B3 HK hk
    have g4 : w1.frozen? ⟨w.heap.size + 3, 0, none⟩ = false := blk_free C3 0
    have g5 : w1.frozen? ⟨w.heap.size + 3, 1, none⟩ = false := blk_free C3 1
    have g2 : w1.cell? ⟨w.heap.size + 3, 0, none⟩ = some (.int .i64 _) := blk_cell C3 0
    have g3 : w1.cell? ⟨w.heap.size + 3, 1, none⟩ = some (.int .i64 _) := blk_cell C3 1
    go_upto_region 6 with (fail)
    generalize hV : World.setCell (World.setCell w1 _ _) _ _ = V
    have D3 : Blk V (w.heap.size + 3) #[.int .i64 x.lo, .int .i64 x.hi] 25 := by rw [← hV]; exact blk_set (blk_set C3 0 _) 1 _
    have D0 : Blk V w.heap.size #[.int .i64 t.lo, .int .i64 t.hi] 25 := by rw [← hV]; exact blk_other (blk_other C0 (by omega) _ _) (by omega) _ _
    have D2 : Blk V (w.heap.size + 2) #[.int .i64 0, .int .i64 0] 25 := by rw [← hV]; exact blk_other (blk_other C2 (by omega) _ _) (by omega) _ _
    have HK2 : Hd (Keeps (fun _ => False) w V) := hid (by rw [← hV]; exact (HK1.out.setCell (by simp) _).setCell (by simp) _)
    clear hV g4 g5 g2 g3 C0 C2 C3 HK1
    have g0 : V.cell? ⟨w.heap.size, 0, none⟩ = some (.int .i64 t.lo) := blk_cell D0 0
    have g1 : V.cell? ⟨w.heap.size, 1, none⟩ = some (.int .i64 t.hi) := blk_cell D0 1
    have g2 : V.cell? ⟨w.heap.size + 3, 0, none⟩ = some (.int .i64 _) := blk_cell D3 0
    have g3 : V.cell? ⟨w.heap.size + 3, 1, none⟩ = some (.int .i64 _) := blk_cell D3 1
    have g4 : V.frozen? ⟨w.heap.size + 3, 0, none⟩ = false := blk_free D3 0
    have g5 : V.frozen? ⟨w.heap.size + 3, 1, none⟩ = false := blk_free D3 1
    go_cut [] from 63 to 73 (fun wx => MMax x t (w.heap.size + 3) 25 wx ∧ Hd (Blk wx (w.heap.size + 2) #[.int .i64 0, .int .i64 0] 25) ∧ Hd (Keeps (fun _ => False) w wx))
    case first =>
      go_wp2_with fail
      all_goals
        go_meet
        refine ⟨⟨_, _, ?_, ?_, blk_set (blk_set D3 0 _) 1 _⟩, hid (blk_other (blk_other D2 (by omega) _ _) (by omega) _ _), hid ((HK2.out.setCell (by simp) _).setCell (by simp) _)⟩
        · omega
        · omega
    case rest =>
      obtain ⟨⟨lo, hi, hlo, hhi, E3⟩, E2, K3⟩ := hcut
      clear g0 g1 g2 g3 g4 g5 D0 D2 D3
      replace E3 := hid E3
      have HLO := hid hlo; have HHI := hid hhi; clear hlo hhi
      have g2 : wc.cell? ⟨w.heap.size + 3, 0, none⟩ = some (.int .i64 _) := blk_cell E3.out 0
      have g3 : wc.cell? ⟨w.heap.size + 3, 1, none⟩ = some (.int .i64 _) := blk_cell E3.out 1
      have g6 : wc.cell? ⟨w.heap.size + 2, 0, none⟩ = some (.int .i64 0) := blk_cell E2.out 0
      have g7 : wc.cell? ⟨w.heap.size + 2, 1, none⟩ = some (.int .i64 0) := blk_cell E2.out 1
      have g8 : wc.frozen? ⟨w.heap.size + 2, 0, none⟩ = false := blk_free E2.out 0
      have g9 : wc.frozen? ⟨w.heap.size + 2, 1, none⟩ = false := blk_free E2.out 1
      rcases Int.lt_or_le hi lo with m | m
      · obtain ⟨KF, F2⟩ := fin2 K3.out (b := w.heap.size + 2) (by omega) E2.out (.int .i64 0) (.int .i64 0)
        have r0 := blk_cell F2 0
        have r1 := blk_cell F2 1
        have HKF := hid KF
        clear KF F2
        go_wp2
        refine bodyPost_ret (v := .tuple #[.agg #[.int .i64 0, .int .i64 0], .int .i64 22]) (by simp [results, Try.results21, go_sem, r0, r1]) rfl ⟨by rw [HE.out]; rw [hx.out]; exact ret_cor2 (by rw [← HLO.out, ← HHI.out]; exact m), HKF.out⟩
      · obtain ⟨KF, F2⟩ := fin2 K3.out (b := w.heap.size + 2) (by omega) E2.out (.int .i64 lo) (.int .i64 hi)
        have r0 := blk_cell F2 0
        have r1 := blk_cell F2 1
        have HKF := hid KF
        clear KF F2
        go_wp2
        refine bodyPost_ret (v := .tuple #[.agg #[.int .i64 lo, .int .i64 hi], .int .i64 0]) (by simp [results, Try.results21, go_sem, r0, r1]) rfl ⟨by rw [HE.out]; rw [hx.out]; exact ret_cor HLO.out HHI.out m, HKF.out⟩
end Go.Proofs.Ytjdalhnffhoknaa
