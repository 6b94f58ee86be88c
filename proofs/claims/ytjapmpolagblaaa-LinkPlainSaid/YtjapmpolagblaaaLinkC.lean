/- orbit.At, link.window. -/
import Derived.Test.YtjapmpolagblaaaLinkB
import Derived.Deep.Cut
namespace Go.Proofs.Ytjapmpolagblaaa
open Go.RowKit
def atW (ws : List Win) (kind a b tick : Int) : Option Win := match nextW ws kind a b tick with
  | some x => if x.f ≤ tick then some x else none
  | none => none
theorem fin6 {w W : World} {b : Nat} {T : TypeId} {c0 c1 c2 c3 c4 c5 : Value} (hk : Keeps (fun _ => False) w W) (hb : w.heap.size ≤ b) (hB : Blk W b #[c0, c1, c2, c3, c4, c5] T) (u0 u1 u2 u3 u4 u5 : Value) :
    Keeps (fun _ => False) w ((((((W.setCell ⟨b, 0, none⟩ u0).setCell ⟨b, 1, none⟩ u1).setCell ⟨b, 2, none⟩ u2).setCell ⟨b, 3, none⟩ u3).setCell ⟨b, 4, none⟩ u4).setCell ⟨b, 5, none⟩ u5) ∧
    Blk ((((((W.setCell ⟨b, 0, none⟩ u0).setCell ⟨b, 1, none⟩ u1).setCell ⟨b, 2, none⟩ u2).setCell ⟨b, 3, none⟩ u3).setCell ⟨b, 4, none⟩ u4).setCell ⟨b, 5, none⟩ u5) b #[u0, u1, u2, u3, u4, u5] T := by
  have h := blk_set (blk_set (blk_set (blk_set (blk_set (blk_set hB 0 u0) 1 u1) 2 u2) 3 u3) 4 u4) 5 u5
  simp only [List.setIfInBounds_toArray, List.set_cons_zero, List.set_cons_succ] at h
  exact ⟨(((((hk.setCell (.inr hb) _).setCell (.inr hb) _).setCell (.inr hb) _).setCell (.inr hb) _).setCell (.inr hb) _).setCell (.inr hb) _, h⟩
set_option maxRecDepth 100000 in set_option maxHeartbeats 1000000 in
theorem At_any (v : Value) (ws : List Win) (kind a b tick : Int) (w : World) (hv : Wins (fun k => k < w.heap.size) w v ws) :
    Calls Try.prog 36 #[v, .int .i64 kind, .int .i64 a, .int .i64 b, .int .i64 tick] w fun e W' => NextPost (atW ws kind a b tick) e ∧ Keeps (fun _ => False) w W' := by
  have HV := hid hv; clear hv
  have KA := hid (keeps_alloc (fun _ => False) w (.cells #[.int .i64 0, .int .i64 0, .int .i64 0, .int .i64 0, .int .i64 0, .int .i64 0] 54))
  go_enter Try.func36, Try.ntmps36
  go_wp2_with fail
  refine (Next_any v ws kind a b tick _ ((HV.out.keep KA.out (fun _ _ _ h => h)).mono (fun b h _ => h))).mono ?_
  rintro e w1 ⟨hp, hk⟩
  have B1 : Hd (Blk w1 w.heap.size #[.int .i64 0, .int .i64 0, .int .i64 0, .int .i64 0, .int .i64 0, .int .i64 0] 54) := hid (blk_keep (blk_new w _ _) hk (fun h => h))
  have K1 := hid (KA.out.trans hk)
  have HA : Hd (atW ws kind a b tick = match nextW ws kind a b tick with
    | some x => if x.f ≤ tick then some x else none
    | none => none) := hid rfl
  clear hk KA
  generalize nextW ws kind a b tick = o at *
  cases o with
  | none =>
    obtain rfl := hp
    have HA2 : Hd (atW ws kind a b tick = none) := hid HA.out
    clear HA
    -- TAIL
    go_upto_region 2 with fail
    generalize hW : World.alloc w1 _ = W
    have B2 : Hd (Blk W w.heap.size #[.int .i64 0, .int .i64 0, .int .i64 0, .int .i64 0, .int .i64 0, .int .i64 0] 54) := hid (by rw [← hW]; exact blk_alloc B1.out _)
    have K2 : Hd (Keeps (fun _ => False) w W) := hid (by rw [← hW]; exact K1.out.alloc _)
    clear hW B1 K1
    have o0 : W.cell? ⟨w.heap.size, 0, none⟩ = some (.int .i64 0) := blk_cell B2.out 0
    have f0 : W.frozen? ⟨w.heap.size, 0, none⟩ = false := blk_free B2.out 0
    have o1 : W.cell? ⟨w.heap.size, 1, none⟩ = some (.int .i64 0) := blk_cell B2.out 1
    have f1 : W.frozen? ⟨w.heap.size, 1, none⟩ = false := blk_free B2.out 1
    have o2 : W.cell? ⟨w.heap.size, 2, none⟩ = some (.int .i64 0) := blk_cell B2.out 2
    have f2 : W.frozen? ⟨w.heap.size, 2, none⟩ = false := blk_free B2.out 2
    have o3 : W.cell? ⟨w.heap.size, 3, none⟩ = some (.int .i64 0) := blk_cell B2.out 3
    have f3 : W.frozen? ⟨w.heap.size, 3, none⟩ = false := blk_free B2.out 3
    have o4 : W.cell? ⟨w.heap.size, 4, none⟩ = some (.int .i64 0) := blk_cell B2.out 4
    have f4 : W.frozen? ⟨w.heap.size, 4, none⟩ = false := blk_free B2.out 4
    have o5 : W.cell? ⟨w.heap.size, 5, none⟩ = some (.int .i64 0) := blk_cell B2.out 5
    have f5 : W.frozen? ⟨w.heap.size, 5, none⟩ = false := blk_free B2.out 5
    go_wp2
    obtain ⟨HV2, B3⟩ := fin6 K2.out (Nat.le_refl _) B2.out (.int .i64 0) (.int .i64 0) (.int .i64 0) (.int .i64 0) (.int .i64 0) (.int .i64 0)
    have r0 := blk_cell B3 0
    have r1 := blk_cell B3 1
    have r2 := blk_cell B3 2
    have r3 := blk_cell B3 3
    have r4 := blk_cell B3 4
    have r5 := blk_cell B3 5
    refine bodyPost_ret (v := .tuple #[.agg #[.int .i64 0, .int .i64 0, .int .i64 0, .int .i64 0, .int .i64 0, .int .i64 0], .bool false]) (by simp [results, Try.results36, go_sem, r0, r1, r2, r3, r4, r5]) rfl ⟨by rw [HA2.out]; rfl, HV2⟩
  | some x =>
    obtain rfl := hp
    have zw1 := blk_lt B1.out
    go_upto_region 2 with fail
    generalize hW : World.alloc w1 _ = W
    have B2 : Hd (Blk W w.heap.size #[.int .i64 0, .int .i64 0, .int .i64 0, .int .i64 0, .int .i64 0, .int .i64 0] 54) := hid (by rw [← hW]; exact blk_alloc B1.out _)
    have BX : Hd (Blk W w1.heap.size #[.int .i64 x.k, .int .i64 x.a, .int .i64 x.b, .int .i64 x.f, .int .i64 x.u, .int .i64 x.r] 54) := hid (by rw [← hW]; exact blk_new _ _ _)
    have K2 : Hd (Keeps (fun _ => False) w W) := hid (by rw [← hW]; exact K1.out.alloc _)
    clear hW B1 K1
    have x0 : W.cell? ⟨w1.heap.size, 0, none⟩ = some (.int .i64 x.k) := blk_cell BX.out 0
    have x1 : W.cell? ⟨w1.heap.size, 1, none⟩ = some (.int .i64 x.a) := blk_cell BX.out 1
    have x2 : W.cell? ⟨w1.heap.size, 2, none⟩ = some (.int .i64 x.b) := blk_cell BX.out 2
    have x3 : W.cell? ⟨w1.heap.size, 3, none⟩ = some (.int .i64 x.f) := blk_cell BX.out 3
    have x4 : W.cell? ⟨w1.heap.size, 4, none⟩ = some (.int .i64 x.u) := blk_cell BX.out 4
    have x5 : W.cell? ⟨w1.heap.size, 5, none⟩ = some (.int .i64 x.r) := blk_cell BX.out 5
    have o0 : W.cell? ⟨w.heap.size, 0, none⟩ = some (.int .i64 0) := blk_cell B2.out 0
    have f0 : W.frozen? ⟨w.heap.size, 0, none⟩ = false := blk_free B2.out 0
    have o1 : W.cell? ⟨w.heap.size, 1, none⟩ = some (.int .i64 0) := blk_cell B2.out 1
    have f1 : W.frozen? ⟨w.heap.size, 1, none⟩ = false := blk_free B2.out 1
    have o2 : W.cell? ⟨w.heap.size, 2, none⟩ = some (.int .i64 0) := blk_cell B2.out 2
    have f2 : W.frozen? ⟨w.heap.size, 2, none⟩ = false := blk_free B2.out 2
    have o3 : W.cell? ⟨w.heap.size, 3, none⟩ = some (.int .i64 0) := blk_cell B2.out 3
    have f3 : W.frozen? ⟨w.heap.size, 3, none⟩ = false := blk_free B2.out 3
    have o4 : W.cell? ⟨w.heap.size, 4, none⟩ = some (.int .i64 0) := blk_cell B2.out 4
    have f4 : W.frozen? ⟨w.heap.size, 4, none⟩ = false := blk_free B2.out 4
    have o5 : W.cell? ⟨w.heap.size, 5, none⟩ = some (.int .i64 0) := blk_cell B2.out 5
    have f5 : W.frozen? ⟨w.heap.size, 5, none⟩ = false := blk_free B2.out 5
    by_cases ht : x.f ≤ tick
    · have HA2 : Hd (atW ws kind a b tick = some x) := hid (by rw [HA.out]; simp [ht])
      clear HA
      go_wp2
      obtain ⟨HV2, B3⟩ := fin6 K2.out (Nat.le_refl _) B2.out (.int .i64 x.k) (.int .i64 x.a) (.int .i64 x.b) (.int .i64 x.f) (.int .i64 x.u) (.int .i64 x.r)
      have r0 := blk_cell B3 0
      have r1 := blk_cell B3 1
      have r2 := blk_cell B3 2
      have r3 := blk_cell B3 3
      have r4 := blk_cell B3 4
      have r5 := blk_cell B3 5
      refine bodyPost_ret (v := .tuple #[.agg #[.int .i64 x.k, .int .i64 x.a, .int .i64 x.b, .int .i64 x.f, .int .i64 x.u, .int .i64 x.r], .bool true]) (by simp [results, Try.results36, go_sem, r0, r1, r2, r3, r4, r5]) rfl ⟨by rw [HA2.out]; rfl, HV2⟩
    · have HA2 : Hd (atW ws kind a b tick = none) := hid (by rw [HA.out]; simp [ht])
      clear HA
      have ht2 : tick < x.f := by omega
      go_wp2
      obtain ⟨HV2, B3⟩ := fin6 K2.out (Nat.le_refl _) B2.out (.int .i64 0) (.int .i64 0) (.int .i64 0) (.int .i64 0) (.int .i64 0) (.int .i64 0)
      have r0 := blk_cell B3 0
      have r1 := blk_cell B3 1
      have r2 := blk_cell B3 2
      have r3 := blk_cell B3 3
      have r4 := blk_cell B3 4
      have r5 := blk_cell B3 5
      refine bodyPost_ret (v := .tuple #[.agg #[.int .i64 0, .int .i64 0, .int .i64 0, .int .i64 0, .int .i64 0, .int .i64 0], .bool false]) (by simp [results, Try.results36, go_sem, r0, r1, r2, r3, r4, r5]) rfl ⟨by rw [HA2.out]; rfl, HV2⟩
def winW (ws : List Win) (fr to tick : Int) : Option Win :=
  if min fr to < 0 ∨ 12 ≤ min fr to ∨ fr = to then none else if 12 ≤ max fr to then atW ws 1 (min fr to) (max fr to - 12) tick else atW ws 2 (min fr to) (max fr to) tick
set_option maxRecDepth 100000 in set_option maxHeartbeats 1000000 in
theorem window_any (v : Value) (ws : List Win) (fr to tick : Int) (w : World) (hv : Wins (fun k => k < w.heap.size) w v ws) (h1 : -9223372036854775808 ≤ fr ∧ fr ≤ 9223372036854775807) (h2 : -9223372036854775808 ≤ to ∧ to ≤ 9223372036854775807) :
    Calls Try.prog 20 #[v, .int .i64 fr, .int .i64 to, .int .i64 tick] w fun e W' => NextPost (winW ws fr to tick) e ∧ Keeps (fun _ => False) w W' := by
  have HV := hid hv; clear hv
  have KA := hid (keeps_alloc (fun _ => False) w (.cells #[.int .i64 0, .int .i64 0, .int .i64 0, .int .i64 0, .int .i64 0, .int .i64 0] 54))
  have BA : Hd (Blk (w.alloc (.cells #[.int .i64 0, .int .i64 0, .int .i64 0, .int .i64 0, .int .i64 0, .int .i64 0] 54)) w.heap.size #[.int .i64 0, .int .i64 0, .int .i64 0, .int .i64 0, .int .i64 0, .int .i64 0] 54) := hid (blk_new _ _ _)
  obtain ⟨lo, hi, hlo, hhi, hlh⟩ : ∃ lo hi, lo = min fr to ∧ hi = max fr to ∧ (lo < hi ∧ fr ≠ to ∨ lo = hi ∧ fr = to) := ⟨_, _, rfl, rfl, by omega⟩
  obtain ⟨R, hR⟩ : ∃ R, winW ws fr to tick = R := ⟨_, rfl⟩
  rw [hR]
  have HW : Hd (R = if lo < 0 ∨ 12 ≤ lo ∨ fr = to then none else if 12 ≤ hi then atW ws 1 lo (hi - 12) tick else atW ws 2 lo hi tick) := hid (by rw [← hR, hlo, hhi]; rfl)
  clear hR
  by_cases hbad : lo < 0 ∨ 12 ≤ lo ∨ lo = hi
  · have HW2 : Hd (R = none) := hid (by rw [HW.out, if_pos (by omega)])
    clear HW
    rcases Int.lt_trichotomy fr to with ho | ho | ho
    all_goals
      have hlo2 : lo = fr ∨ lo = to := by omega
      rcases (show lo < 0 ∨ (¬ lo < 0 ∧ 12 ≤ lo) ∨ (¬ lo < 0 ∧ ¬ 12 ≤ lo ∧ fr = to) by omega) with hb | ⟨hb, hb2⟩ | ⟨hb, hb2, hb3⟩
      all_goals
        first
        | (exfalso; omega)
        | (go_enter Try.func20, Try.ntmps20
           go_upto_region 1 with fail
           generalize hW0 : World.alloc w _ = W0 at *
           have o0 : W0.cell? ⟨w.heap.size, 0, none⟩ = some (.int .i64 0) := blk_cell BA.out 0
           have f0 : W0.frozen? ⟨w.heap.size, 0, none⟩ = false := blk_free BA.out 0
           have o1 : W0.cell? ⟨w.heap.size, 1, none⟩ = some (.int .i64 0) := blk_cell BA.out 1
           have f1 : W0.frozen? ⟨w.heap.size, 1, none⟩ = false := blk_free BA.out 1
           have o2 : W0.cell? ⟨w.heap.size, 2, none⟩ = some (.int .i64 0) := blk_cell BA.out 2
           have f2 : W0.frozen? ⟨w.heap.size, 2, none⟩ = false := blk_free BA.out 2
           have o3 : W0.cell? ⟨w.heap.size, 3, none⟩ = some (.int .i64 0) := blk_cell BA.out 3
           have f3 : W0.frozen? ⟨w.heap.size, 3, none⟩ = false := blk_free BA.out 3
           have o4 : W0.cell? ⟨w.heap.size, 4, none⟩ = some (.int .i64 0) := blk_cell BA.out 4
           have f4 : W0.frozen? ⟨w.heap.size, 4, none⟩ = false := blk_free BA.out 4
           have o5 : W0.cell? ⟨w.heap.size, 5, none⟩ = some (.int .i64 0) := blk_cell BA.out 5
           have f5 : W0.frozen? ⟨w.heap.size, 5, none⟩ = false := blk_free BA.out 5
           go_wp2
           obtain ⟨HV2, B3⟩ := fin6 KA.out (Nat.le_refl _) BA.out (.int .i64 0) (.int .i64 0) (.int .i64 0) (.int .i64 0) (.int .i64 0) (.int .i64 0)
           have r0 := blk_cell B3 0
           have r1 := blk_cell B3 1
           have r2 := blk_cell B3 2
           have r3 := blk_cell B3 3
           have r4 := blk_cell B3 4
           have r5 := blk_cell B3 5
           refine bodyPost_ret (v := .tuple #[.agg #[.int .i64 0, .int .i64 0, .int .i64 0, .int .i64 0, .int .i64 0, .int .i64 0], .bool false]) (by simp [results, Try.results20, go_sem, r0, r1, r2, r3, r4, r5]) rfl ⟨by rw [HW2.out]; rfl, HV2⟩)
  · have hne : fr ≠ to := by omega
    have HW2 : Hd (R = if 12 ≤ hi then atW ws 1 lo (hi - 12) tick else atW ws 2 lo hi tick) := hid (by rw [HW.out, if_neg (by omega)])
    clear HW
    rcases (show (lo = fr ∧ hi = to ∧ fr < to) ∨ (lo = to ∧ hi = fr ∧ to < fr) by omega) with ⟨e1, e2, ho⟩ | ⟨e1, e2, ho⟩
    all_goals
      subst e1 e2
      clear hlo hhi
      have b1 : ¬ lo < 0 := by omega
      have b2 : ¬ 12 ≤ lo := by omega
      have b3 : lo ≠ hi := by omega
      by_cases h12 : 12 ≤ hi
      · have HW3 : Hd (R = atW ws 1 lo (hi - 12) tick) := hid (by rw [HW2.out, if_pos h12])
        clear HW2
        go_enter Try.func20, Try.ntmps20
        go_upto_region 1 with fail
        go_wp2_with fail
        refine (At_any v ws 1 lo (hi - 12) tick _ ((HV.out.keep KA.out (fun _ _ _ h => h)).mono (fun b h _ => h))).mono ?_
        rw [← HW3.out]
        rintro e w1 ⟨hp, hk⟩
        have B1 : Hd (Blk w1 w.heap.size #[.int .i64 0, .int .i64 0, .int .i64 0, .int .i64 0, .int .i64 0, .int .i64 0] 54) := hid (blk_keep BA.out hk (fun h => h))
        have K1 := hid (KA.out.trans hk)
        clear hk KA BA HW3
        have o0 : w1.cell? ⟨w.heap.size, 0, none⟩ = some (.int .i64 0) := blk_cell B1.out 0
        have f0 : w1.frozen? ⟨w.heap.size, 0, none⟩ = false := blk_free B1.out 0
        have o1 : w1.cell? ⟨w.heap.size, 1, none⟩ = some (.int .i64 0) := blk_cell B1.out 1
        have f1 : w1.frozen? ⟨w.heap.size, 1, none⟩ = false := blk_free B1.out 1
        have o2 : w1.cell? ⟨w.heap.size, 2, none⟩ = some (.int .i64 0) := blk_cell B1.out 2
        have f2 : w1.frozen? ⟨w.heap.size, 2, none⟩ = false := blk_free B1.out 2
        have o3 : w1.cell? ⟨w.heap.size, 3, none⟩ = some (.int .i64 0) := blk_cell B1.out 3
        have f3 : w1.frozen? ⟨w.heap.size, 3, none⟩ = false := blk_free B1.out 3
        have o4 : w1.cell? ⟨w.heap.size, 4, none⟩ = some (.int .i64 0) := blk_cell B1.out 4
        have f4 : w1.frozen? ⟨w.heap.size, 4, none⟩ = false := blk_free B1.out 4
        have o5 : w1.cell? ⟨w.heap.size, 5, none⟩ = some (.int .i64 0) := blk_cell B1.out 5
        have f5 : w1.frozen? ⟨w.heap.size, 5, none⟩ = false := blk_free B1.out 5
        cases R with
        | none =>
          obtain rfl := hp
          go_wp2
          obtain ⟨HV2, B3⟩ := fin6 K1.out (Nat.le_refl _) B1.out (.int .i64 0) (.int .i64 0) (.int .i64 0) (.int .i64 0) (.int .i64 0) (.int .i64 0)
          have r0 := blk_cell B3 0
          have r1 := blk_cell B3 1
          have r2 := blk_cell B3 2
          have r3 := blk_cell B3 3
          have r4 := blk_cell B3 4
          have r5 := blk_cell B3 5
          refine bodyPost_ret (v := .tuple #[.agg #[.int .i64 0, .int .i64 0, .int .i64 0, .int .i64 0, .int .i64 0, .int .i64 0], .bool false]) (by simp [results, Try.results20, go_sem, r0, r1, r2, r3, r4, r5]) rfl ⟨rfl, HV2⟩
        | some x =>
          obtain rfl := hp
          go_wp2
          obtain ⟨HV2, B3⟩ := fin6 K1.out (Nat.le_refl _) B1.out (.int .i64 x.k) (.int .i64 x.a) (.int .i64 x.b) (.int .i64 x.f) (.int .i64 x.u) (.int .i64 x.r)
          have r0 := blk_cell B3 0
          have r1 := blk_cell B3 1
          have r2 := blk_cell B3 2
          have r3 := blk_cell B3 3
          have r4 := blk_cell B3 4
          have r5 := blk_cell B3 5
          refine bodyPost_ret (v := .tuple #[.agg #[.int .i64 x.k, .int .i64 x.a, .int .i64 x.b, .int .i64 x.f, .int .i64 x.u, .int .i64 x.r], .bool true]) (by simp [results, Try.results20, go_sem, r0, r1, r2, r3, r4, r5]) rfl ⟨rfl, HV2⟩
      · have HW3 : Hd (R = atW ws 2 lo (hi) tick) := hid (by rw [HW2.out, if_neg h12])
        clear HW2
        go_enter Try.func20, Try.ntmps20
        go_upto_region 1 with fail
        go_wp2_with fail
        refine (At_any v ws 2 lo (hi) tick _ ((HV.out.keep KA.out (fun _ _ _ h => h)).mono (fun b h _ => h))).mono ?_
        rw [← HW3.out]
        rintro e w1 ⟨hp, hk⟩
        have B1 : Hd (Blk w1 w.heap.size #[.int .i64 0, .int .i64 0, .int .i64 0, .int .i64 0, .int .i64 0, .int .i64 0] 54) := hid (blk_keep BA.out hk (fun h => h))
        have K1 := hid (KA.out.trans hk)
        clear hk KA BA HW3
        have o0 : w1.cell? ⟨w.heap.size, 0, none⟩ = some (.int .i64 0) := blk_cell B1.out 0
        have f0 : w1.frozen? ⟨w.heap.size, 0, none⟩ = false := blk_free B1.out 0
        have o1 : w1.cell? ⟨w.heap.size, 1, none⟩ = some (.int .i64 0) := blk_cell B1.out 1
        have f1 : w1.frozen? ⟨w.heap.size, 1, none⟩ = false := blk_free B1.out 1
        have o2 : w1.cell? ⟨w.heap.size, 2, none⟩ = some (.int .i64 0) := blk_cell B1.out 2
        have f2 : w1.frozen? ⟨w.heap.size, 2, none⟩ = false := blk_free B1.out 2
        have o3 : w1.cell? ⟨w.heap.size, 3, none⟩ = some (.int .i64 0) := blk_cell B1.out 3
        have f3 : w1.frozen? ⟨w.heap.size, 3, none⟩ = false := blk_free B1.out 3
        have o4 : w1.cell? ⟨w.heap.size, 4, none⟩ = some (.int .i64 0) := blk_cell B1.out 4
        have f4 : w1.frozen? ⟨w.heap.size, 4, none⟩ = false := blk_free B1.out 4
        have o5 : w1.cell? ⟨w.heap.size, 5, none⟩ = some (.int .i64 0) := blk_cell B1.out 5
        have f5 : w1.frozen? ⟨w.heap.size, 5, none⟩ = false := blk_free B1.out 5
        cases R with
        | none =>
          obtain rfl := hp
          go_wp2
          obtain ⟨HV2, B3⟩ := fin6 K1.out (Nat.le_refl _) B1.out (.int .i64 0) (.int .i64 0) (.int .i64 0) (.int .i64 0) (.int .i64 0) (.int .i64 0)
          have r0 := blk_cell B3 0
          have r1 := blk_cell B3 1
          have r2 := blk_cell B3 2
          have r3 := blk_cell B3 3
          have r4 := blk_cell B3 4
          have r5 := blk_cell B3 5
          refine bodyPost_ret (v := .tuple #[.agg #[.int .i64 0, .int .i64 0, .int .i64 0, .int .i64 0, .int .i64 0, .int .i64 0], .bool false]) (by simp [results, Try.results20, go_sem, r0, r1, r2, r3, r4, r5]) rfl ⟨rfl, HV2⟩
        | some x =>
          obtain rfl := hp
          go_wp2
          obtain ⟨HV2, B3⟩ := fin6 K1.out (Nat.le_refl _) B1.out (.int .i64 x.k) (.int .i64 x.a) (.int .i64 x.b) (.int .i64 x.f) (.int .i64 x.u) (.int .i64 x.r)
          have r0 := blk_cell B3 0
          have r1 := blk_cell B3 1
          have r2 := blk_cell B3 2
          have r3 := blk_cell B3 3
          have r4 := blk_cell B3 4
          have r5 := blk_cell B3 5
          refine bodyPost_ret (v := .tuple #[.agg #[.int .i64 x.k, .int .i64 x.a, .int .i64 x.b, .int .i64 x.f, .int .i64 x.u, .int .i64 x.r], .bool true]) (by simp [results, Try.results20, go_sem, r0, r1, r2, r3, r4, r5]) rfl ⟨rfl, HV2⟩
end Go.Proofs.Ytjapmpolagblaaa
