/- Link: the reference's At, window, Open; and link.Open. -/
import Derived.Test.YtjapmpolagblaaaLinkM
import Derived.Deep.Cut
namespace Go.Proofs.Ytjapmpolagblaaa
open Go.RowKit
attribute [local go_sem ↓] Go.wp_at_zero Go.wp_at_succ
theorem find_at {α : Type} {p : α → Bool} : ∀ {l : List α} {k : Nat} {x : α}, (∀ i y, i < k → l[i]? = some y → p y = false) → l[k]? = some x → p x = true → l.find? p = some x := by
  intro l
  induction l with
  | nil => intro k x _ h; simp at h
  | cons z l ih =>
    intro k x h1 h2 h3
    cases k with
    | zero => simp at h2; subst h2; simp [List.find?, h3]
    | succ k =>
      have h0 := h1 0 z (by omega) rfl
      simp only [List.find?, h0]
      exact ih (k := k) (fun i y hi hy => h1 (i + 1) y (by omega) (by simpa using hy)) (by simpa using h2) h3
theorem find_no {α : Type} {p : α → Bool} {l : List α} (h : ∀ i y, i < l.length → l[i]? = some y → p y = false) : l.find? p = none := by
  rw [List.find?_eq_none]
  intro x hx
  obtain ⟨i, hi, rfl⟩ := List.getElem_of_mem hx
  have := h i _ hi (List.getElem?_eq_getElem hi)
  simp [this]
set_option maxRecDepth 100000 in set_option maxHeartbeats 1000000 in
theorem Key_any (x : Win) (kind a b : Int) (w : World) :
    Calls Try.prog 39 #[.agg #[.int .i64 x.k, .int .i64 x.a, .int .i64 x.b, .int .i64 x.f, .int .i64 x.u, .int .i64 x.r], .int .i64 kind, .int .i64 a, .int .i64 b] w fun e w' => e = .returned (.bool (x.key kind a b)) ∧ Keeps (fun _ => False) w w' := by
  have KA := hid (keeps_alloc (fun _ => False) w (.cells #[.int .i64 x.k, .int .i64 x.a, .int .i64 x.b, .int .i64 x.f, .int .i64 x.u, .int .i64 x.r] 54))
  have HQ : Hd (x.key kind a b = (x.k == kind && x.a == a && x.b == b)) := hid rfl
  have go : ∀ c1 c2 c3 : Bool, (x.k == kind) = c1 → (x.a == a) = c2 → (x.b == b) = c3 → Calls Try.prog 39 #[.agg #[.int .i64 x.k, .int .i64 x.a, .int .i64 x.b, .int .i64 x.f, .int .i64 x.u, .int .i64 x.r], .int .i64 kind, .int .i64 a, .int .i64 b] w fun e w' => e = .returned (.bool (x.key kind a b)) ∧ Keeps (fun _ => False) w w' := by
    intro c1 c2 c3 h1 h2 h3
    have HE : Hd (x.key kind a b = (c1 && c2 && c3)) := hid (by rw [HQ.out, h1, h2, h3])
    rw [HE.out]
    cases c1 <;> cases c2 <;> cases c3
    all_goals
      go_enter Try.func39, Try.ntmps39
      go_wp2
      go_ret
      exact ⟨rfl, KA.out⟩
  exact go _ _ _ rfl rfl rfl

def refOk (kind a b tick : Int) (x : Win) : Bool := x.key kind a b && decide (x.f ≤ tick) && decide (tick < x.u)
set_option maxRecDepth 100000 in set_option maxHeartbeats 1000000 in
theorem refAt_any (v : Value) (ws : List Win) (kind a b tick : Int) (w : World) (hv : Wins (fun k => k < w.heap.size) w v ws) :
    Calls Try.prog 37 #[v, .int .i64 kind, .int .i64 a, .int .i64 b, .int .i64 tick] w fun e W' => NextPost (refAt ws kind a b tick) e ∧ Keeps (fun _ => False) w W' := by
  obtain ⟨sa, cap, rfl, hcap, hcm, hel⟩ := hv
  unfold maxLen at hcm
  have HEL := hid hel; clear hel
  obtain ⟨R, hR⟩ : ∃ R, refAt ws kind a b tick = R := ⟨_, rfl⟩
  rw [hR]
  have HR := hid hR; clear hR
  generalize hll : ws.length = m at *
  have HLL := hid hll; clear hll
  go_enter Try.func37, Try.ntmps37
  go_upto_region 1 with fail
  generalize hW : World.alloc w _ = W
  have BR : Hd (Blk W w.heap.size #[.int .i64 0, .int .i64 0, .int .i64 0, .int .i64 0, .int .i64 0, .int .i64 0] 54) := hid (by rw [← hW]; exact blk_new _ _ _)
  have KW : Hd (Keeps (fun _ => False) w W) := hid (by rw [← hW]; exact keeps_alloc _ _ _)
  clear hW
  go_wp2_with fail
  go_loopw [12] (fun i wr => ∃ k : Nat, i = .int .i64 k ∧ k ≤ m ∧ Hd (∀ j y, j < k → ws[j]? = some y → refOk kind a b tick y = false) ∧ Hd (Keeps (fun _ => False) W wr)) (fun i _ => m - (intOf i).toNat)
  case atStart => exact ⟨0, rfl, Nat.zero_le _, hid (fun j y hj => by omega), hid (Keeps.refl _ _)⟩
  case round =>
    obtain ⟨k, rfl, hk, HNO, KR⟩ := hrel
    have KA := hid (KW.out.trans KR.out)
    have BA := hid (blk_keep BR.out KR.out (fun h => h))
    by_cases hkm : k < m
    · obtain ⟨bb, o, x, rfl, hb1, hb2, hx, c0, c1, c2, c3, c4, c5⟩ := HEL.out k hkm
      have f0 := keep_cell KA.out (fun h => h) c0
      have f1 := keep_cell KA.out (fun h => h) c1
      have f2 := keep_cell KA.out (fun h => h) c2
      have f3 := keep_cell KA.out (fun h => h) c3
      have f4 := keep_cell KA.out (fun h => h) c4
      have f5 := keep_cell KA.out (fun h => h) c5
      have HX := hid hx
      have HC : Hd (∀ w', Keeps (fun _ => False) w w' → w'.cell? ⟨bb, o + k * 6, none⟩ = some (.int .i64 x.k) ∧ w'.cell? ⟨bb, o + k * 6 + 1, none⟩ = some (.int .i64 x.a) ∧ w'.cell? ⟨bb, o + k * 6 + 2, none⟩ = some (.int .i64 x.b) ∧ w'.cell? ⟨bb, o + k * 6 + 3, none⟩ = some (.int .i64 x.f) ∧ w'.cell? ⟨bb, o + k * 6 + 4, none⟩ = some (.int .i64 x.u) ∧ w'.cell? ⟨bb, o + k * 6 + 5, none⟩ = some (.int .i64 x.r)) :=
        hid (fun w' hk => ⟨keep_cell hk (fun h => h) c0, keep_cell hk (fun h => h) c1, keep_cell hk (fun h => h) c2, keep_cell hk (fun h => h) c3, keep_cell hk (fun h => h) c4, keep_cell hk (fun h => h) c5⟩)
      clear hx c0 c1 c2 c3 c4 c5
      have k1 : (k : Int) < m := by omega
      have k2 : (0 : Int) ≤ k := by omega
      obtain ⟨q, hq⟩ : ∃ q, x.key kind a b = q := ⟨_, rfl⟩
      go_wp2_with fail
      refine (Key_any x kind a b _).mono ?_
      rw [hq]
      rintro e w2 ⟨rfl, hk2⟩
      have KB := hid (KA.out.trans hk2)
      have KR2 := hid (KR.out.trans hk2)
      have BB := hid (blk_keep BA.out hk2 (fun h => h))
      have HQ := hid hq
      clear hk2 f0 f1 f2 f3 f4 f5 hq
      obtain ⟨f0, f1, f2, f3, f4, f5⟩ := HC.out w2 KB.out
      have o0 : w2.cell? ⟨w.heap.size, 0, none⟩ = some (.int .i64 0) := blk_cell BB.out 0
      have of0 : w2.frozen? ⟨w.heap.size, 0, none⟩ = false := blk_free BB.out 0
      have o1 : w2.cell? ⟨w.heap.size, 1, none⟩ = some (.int .i64 0) := blk_cell BB.out 1
      have of1 : w2.frozen? ⟨w.heap.size, 1, none⟩ = false := blk_free BB.out 1
      have o2 : w2.cell? ⟨w.heap.size, 2, none⟩ = some (.int .i64 0) := blk_cell BB.out 2
      have of2 : w2.frozen? ⟨w.heap.size, 2, none⟩ = false := blk_free BB.out 2
      have o3 : w2.cell? ⟨w.heap.size, 3, none⟩ = some (.int .i64 0) := blk_cell BB.out 3
      have of3 : w2.frozen? ⟨w.heap.size, 3, none⟩ = false := blk_free BB.out 3
      have o4 : w2.cell? ⟨w.heap.size, 4, none⟩ = some (.int .i64 0) := blk_cell BB.out 4
      have of4 : w2.frozen? ⟨w.heap.size, 4, none⟩ = false := blk_free BB.out 4
      have o5 : w2.cell? ⟨w.heap.size, 5, none⟩ = some (.int .i64 0) := blk_cell BB.out 5
      have of5 : w2.frozen? ⟨w.heap.size, 5, none⟩ = false := blk_free BB.out 5
      by_cases hok : q = true ∧ x.f ≤ tick ∧ tick < x.u
      · obtain ⟨rfl, h2, h3⟩ := hok
        have HF : Hd (R = some x) := hid (by rw [← HR.out]; exact find_at HNO.out HX.out (by simp [HQ.out, h2, h3]))
        go_wp2
        obtain ⟨HV2, B3⟩ := fin6 KB.out (Nat.le_refl _) BB.out (.int .i64 x.k) (.int .i64 x.a) (.int .i64 x.b) (.int .i64 x.f) (.int .i64 x.u) (.int .i64 x.r)
        have r0 := blk_cell B3 0
        have r1 := blk_cell B3 1
        have r2 := blk_cell B3 2
        have r3 := blk_cell B3 3
        have r4 := blk_cell B3 4
        have r5 := blk_cell B3 5
        refine bodyPost_ret (v := .tuple #[.agg #[.int .i64 x.k, .int .i64 x.a, .int .i64 x.b, .int .i64 x.f, .int .i64 x.u, .int .i64 x.r], .bool true]) (by simp [results, Try.results37, go_sem, r0, r1, r2, r3, r4, r5]) rfl ⟨by rw [HF.out]; rfl, HV2⟩
      · have HF : Hd (refOk kind a b tick x = false) := hid (by unfold refOk; rw [HQ.out, Bool.eq_false_iff]; intro h; simp at h; exact hok ⟨h.1.1, h.1.2, h.2⟩)
        have HNO2 : Hd (∀ j y, j < k + 1 → ws[j]? = some y → refOk kind a b tick y = false) := hid (fun j y hj hy => by
          rcases Nat.lt_or_ge j k with h | h
          · exact HNO.out j y h hy
          · obtain rfl : j = k := by omega
            rw [HX.out] at hy; injection hy with hy; subst hy; exact HF.out)
        have main : (q = false) ∨ (q = true ∧ tick < x.f) ∨ (q = true ∧ x.f ≤ tick ∧ x.u ≤ tick) := by
          cases q
          · exact .inl rfl
          · rcases Int.lt_or_le tick x.f with h | h
            · exact .inr (.inl ⟨rfl, h⟩)
            · exact .inr (.inr ⟨rfl, h, by
                rcases Int.lt_or_le tick x.u with h2 | h2
                · exact absurd ⟨rfl, h, h2⟩ hok
                · exact h2⟩)
        clear hok HF HNO
        rcases main with rfl | ⟨rfl, h2⟩ | ⟨rfl, h2, h3⟩
        all_goals
          go_wp2_with fail
          go_roundw
          case rel => exact ⟨k + 1, by go_num, by omega, HNO2, KR2⟩
          case measure => simp [intOf]; omega
    · have hkm2 : k = m := by omega
      have HF : Hd (R = none) := hid (by rw [← HR.out]; exact find_no (fun i y hi hy => HNO.out i y (by rw [HLL.out] at hi; omega) hy))
      have k0 : ¬ ((k : Int) < m) := by omega
      clear hkm hkm2 HNO
      have o0 : wr.cell? ⟨w.heap.size, 0, none⟩ = some (.int .i64 0) := blk_cell BA.out 0
      have of0 : wr.frozen? ⟨w.heap.size, 0, none⟩ = false := blk_free BA.out 0
      have o1 : wr.cell? ⟨w.heap.size, 1, none⟩ = some (.int .i64 0) := blk_cell BA.out 1
      have of1 : wr.frozen? ⟨w.heap.size, 1, none⟩ = false := blk_free BA.out 1
      have o2 : wr.cell? ⟨w.heap.size, 2, none⟩ = some (.int .i64 0) := blk_cell BA.out 2
      have of2 : wr.frozen? ⟨w.heap.size, 2, none⟩ = false := blk_free BA.out 2
      have o3 : wr.cell? ⟨w.heap.size, 3, none⟩ = some (.int .i64 0) := blk_cell BA.out 3
      have of3 : wr.frozen? ⟨w.heap.size, 3, none⟩ = false := blk_free BA.out 3
      have o4 : wr.cell? ⟨w.heap.size, 4, none⟩ = some (.int .i64 0) := blk_cell BA.out 4
      have of4 : wr.frozen? ⟨w.heap.size, 4, none⟩ = false := blk_free BA.out 4
      have o5 : wr.cell? ⟨w.heap.size, 5, none⟩ = some (.int .i64 0) := blk_cell BA.out 5
      have of5 : wr.frozen? ⟨w.heap.size, 5, none⟩ = false := blk_free BA.out 5
      go_wp2
      obtain ⟨HV2, B3⟩ := fin6 KA.out (Nat.le_refl _) BA.out (.int .i64 0) (.int .i64 0) (.int .i64 0) (.int .i64 0) (.int .i64 0) (.int .i64 0)
      have r0 := blk_cell B3 0
      have r1 := blk_cell B3 1
      have r2 := blk_cell B3 2
      have r3 := blk_cell B3 3
      have r4 := blk_cell B3 4
      have r5 := blk_cell B3 5
      refine bodyPost_ret (v := .tuple #[.agg #[.int .i64 0, .int .i64 0, .int .i64 0, .int .i64 0, .int .i64 0, .int .i64 0], .bool false]) (by simp [results, Try.results37, go_sem, r0, r1, r2, r3, r4, r5]) rfl ⟨by rw [HF.out]; rfl, HV2⟩
set_option maxRecDepth 100000 in set_option maxHeartbeats 1000000 in
theorem refwindow_any (v : Value) (ws : List Win) (fr tt tick : Int) (w : World) (hv : Wins (fun k => k < w.heap.size) w v ws) (h1 : -9223372036854775808 ≤ fr ∧ fr ≤ 9223372036854775807) (h2 : -9223372036854775808 ≤ tt ∧ tt ≤ 9223372036854775807) :
    Calls Try.prog 27 #[v, .int .i64 fr, .int .i64 tt, .int .i64 tick] w fun e W' => NextPost (refW ws fr tt tick) e ∧ Keeps (fun _ => False) w W' := by
  have HV := hid hv; clear hv
  have KA := hid (keeps_alloc (fun _ => False) w (.cells #[.int .i64 0, .int .i64 0, .int .i64 0, .int .i64 0, .int .i64 0, .int .i64 0] 54))
  have BA : Hd (Blk (w.alloc (.cells #[.int .i64 0, .int .i64 0, .int .i64 0, .int .i64 0, .int .i64 0, .int .i64 0] 54)) w.heap.size #[.int .i64 0, .int .i64 0, .int .i64 0, .int .i64 0, .int .i64 0, .int .i64 0] 54) := hid (blk_new _ _ _)
  obtain ⟨lo, hi, hlo, hhi, hlh⟩ : ∃ lo hi, lo = min fr tt ∧ hi = max fr tt ∧ (lo < hi ∧ fr ≠ tt ∨ lo = hi ∧ fr = tt) := ⟨_, _, rfl, rfl, by omega⟩
  obtain ⟨R, hR⟩ : ∃ R, refW ws fr tt tick = R := ⟨_, rfl⟩
  rw [hR]
  have HW : Hd (R = if lo < 0 ∨ 12 ≤ lo ∨ fr = tt then none else if 12 ≤ hi then refAt ws 1 lo (hi - 12) tick else refAt ws 2 lo hi tick) := hid (by rw [← hR, hlo, hhi]; rfl)
  clear hR
  by_cases hbad : lo < 0 ∨ 12 ≤ lo ∨ lo = hi
  · have HW2 : Hd (R = none) := hid (by rw [HW.out, if_pos (by omega)])
    clear HW
    rcases Int.lt_trichotomy fr tt with ho | ho | ho
    all_goals
      have hlo2 : lo = fr ∨ lo = tt := by omega
      rcases (show lo < 0 ∨ (¬ lo < 0 ∧ 12 ≤ lo) ∨ (¬ lo < 0 ∧ ¬ 12 ≤ lo ∧ fr = tt) by omega) with hb | ⟨hb, hb2⟩ | ⟨hb, hb2, hb3⟩
      all_goals
        first
        | (exfalso; omega)
        | (go_enter Try.func27, Try.ntmps27
           go_upto_region 1 with fail
           generalize hW0 : World.alloc w _ = W0 at *
           have o0 : W0.cell? ⟨w.heap.size, 0, none⟩ = some (.int .i64 0) := blk_cell BA.out 0
           have f0 : W0.frozen? ⟨w.heap.size, 0, none⟩ = false := blk_free BA.out 0
           have o1 : W0.cell? ⟨w.heap.size, 1, none⟩ = some (.int .i64 0) := blk_cell BA.out 1
           have f1 : W0.frozen? ⟨w.heap.size, 1, none⟩ = false := blk_free BA.out 1
           have o2 : W0.cell? ⟨w.heap.size, 2, none⟩ = some (.int .i64 0) := blk_cell BA.out 2
           have f2 : W0.frozen? ⟨w.heap.size, 2, none⟩ = false := blk_free BA.out 2
           have o3 : W0.cell? ⟨w.heap.size, 3, none⟩ = some (.int .i64 0) := blk_cell BA.out 3
           have f3 : W0.frozen? ⟨w.heap.size, 3, none⟩ = false := blk_free BA.out 3
           have o4 : W0.cell? ⟨w.heap.size, 4, none⟩ = some (.int .i64 0) := blk_cell BA.out 4
           have f4 : W0.frozen? ⟨w.heap.size, 4, none⟩ = false := blk_free BA.out 4
           have o5 : W0.cell? ⟨w.heap.size, 5, none⟩ = some (.int .i64 0) := blk_cell BA.out 5
           have f5 : W0.frozen? ⟨w.heap.size, 5, none⟩ = false := blk_free BA.out 5
           go_wp2
           obtain ⟨HV2, B3⟩ := fin6 KA.out (Nat.le_refl _) BA.out (.int .i64 0) (.int .i64 0) (.int .i64 0) (.int .i64 0) (.int .i64 0) (.int .i64 0)
           have r0 := blk_cell B3 0
           have r1 := blk_cell B3 1
           have r2 := blk_cell B3 2
           have r3 := blk_cell B3 3
           have r4 := blk_cell B3 4
           have r5 := blk_cell B3 5
           refine bodyPost_ret (v := .tuple #[.agg #[.int .i64 0, .int .i64 0, .int .i64 0, .int .i64 0, .int .i64 0, .int .i64 0], .bool false]) (by simp [results, Try.results27, go_sem, r0, r1, r2, r3, r4, r5]) rfl ⟨by rw [HW2.out]; rfl, HV2⟩)
  · have hne : fr ≠ tt := by omega
    have HW2 : Hd (R = if 12 ≤ hi then refAt ws 1 lo (hi - 12) tick else refAt ws 2 lo hi tick) := hid (by rw [HW.out, if_neg (by omega)])
    clear HW
    rcases (show (lo = fr ∧ hi = tt ∧ fr < tt) ∨ (lo = tt ∧ hi = fr ∧ tt < fr) by omega) with ⟨e1, e2, ho⟩ | ⟨e1, e2, ho⟩
    all_goals
      subst e1 e2
      clear hlo hhi
      have b1 : ¬ lo < 0 := by omega
      have b2 : ¬ 12 ≤ lo := by omega
      have b3 : lo ≠ hi := by omega
      by_cases h12 : 12 ≤ hi
      · have HW3 : Hd (R = refAt ws 1 lo (hi - 12) tick) := hid (by rw [HW2.out, if_pos h12])
        have d1 : decide (11 < lo) = false := by simp; omega
        have d2 : (lo == hi) = false := by simp; omega
        have d3 : decide (lo < 0) = false := by simp; omega
        clear HW2
        go_enter Try.func27, Try.ntmps27
        go_upto_region 1 with fail
        go_wp2_with fail
        refine (refAt_any v ws 1 lo (hi - 12) tick _ ((HV.out.keep KA.out (fun _ _ _ h => h)).mono (fun b h _ => h))).mono ?_
        rw [← HW3.out]
        rintro e w1 ⟨hp, hk⟩
        have B1 : Hd (Blk w1 w.heap.size #[.int .i64 0, .int .i64 0, .int .i64 0, .int .i64 0, .int .i64 0, .int .i64 0] 54) := hid (blk_keep BA.out hk (fun h => h))
        have K1 := hid (KA.out.trans hk)
        clear hk KA BA HW3
        have o0 : w1.cell? ⟨w.heap.size, 0, none⟩ = some (.int .i64 0) := blk_cell B1.out 0
        have f0 : w1.frozen? ⟨w.heap.size, 0, none⟩ = false := blk_free B1.out 0
        have o1 : w1.cell? ⟨w.heap.size, 1, none⟩ = some (.int .i64 0) := blk_cell B1.out 1
        have f1 : w1.frozen? ⟨w.heap.size, 1, none⟩ = false := blk_free B1.out 1
        have o2 : w1.cell? ⟨w.heap.size, 2, none⟩ = some (.int .i64 0) := blk_cell B1.out 2
        have f2 : w1.frozen? ⟨w.heap.size, 2, none⟩ = false := blk_free B1.out 2
        have o3 : w1.cell? ⟨w.heap.size, 3, none⟩ = some (.int .i64 0) := blk_cell B1.out 3
        have f3 : w1.frozen? ⟨w.heap.size, 3, none⟩ = false := blk_free B1.out 3
        have o4 : w1.cell? ⟨w.heap.size, 4, none⟩ = some (.int .i64 0) := blk_cell B1.out 4
        have f4 : w1.frozen? ⟨w.heap.size, 4, none⟩ = false := blk_free B1.out 4
        have o5 : w1.cell? ⟨w.heap.size, 5, none⟩ = some (.int .i64 0) := blk_cell B1.out 5
        have f5 : w1.frozen? ⟨w.heap.size, 5, none⟩ = false := blk_free B1.out 5
        cases R with
        | none =>
          obtain rfl := hp
          go_wp2
          obtain ⟨HV2, B3⟩ := fin6 K1.out (Nat.le_refl _) B1.out (.int .i64 0) (.int .i64 0) (.int .i64 0) (.int .i64 0) (.int .i64 0) (.int .i64 0)
          have r0 := blk_cell B3 0
          have r1 := blk_cell B3 1
          have r2 := blk_cell B3 2
          have r3 := blk_cell B3 3
          have r4 := blk_cell B3 4
          have r5 := blk_cell B3 5
          refine bodyPost_ret (v := .tuple #[.agg #[.int .i64 0, .int .i64 0, .int .i64 0, .int .i64 0, .int .i64 0, .int .i64 0], .bool false]) (by simp [results, Try.results27, go_sem, r0, r1, r2, r3, r4, r5]) rfl ⟨rfl, HV2⟩
        | some x =>
          obtain rfl := hp
          go_wp2
          obtain ⟨HV2, B3⟩ := fin6 K1.out (Nat.le_refl _) B1.out (.int .i64 x.k) (.int .i64 x.a) (.int .i64 x.b) (.int .i64 x.f) (.int .i64 x.u) (.int .i64 x.r)
          have r0 := blk_cell B3 0
          have r1 := blk_cell B3 1
          have r2 := blk_cell B3 2
          have r3 := blk_cell B3 3
          have r4 := blk_cell B3 4
          have r5 := blk_cell B3 5
          refine bodyPost_ret (v := .tuple #[.agg #[.int .i64 x.k, .int .i64 x.a, .int .i64 x.b, .int .i64 x.f, .int .i64 x.u, .int .i64 x.r], .bool true]) (by simp [results, Try.results27, go_sem, r0, r1, r2, r3, r4, r5]) rfl ⟨rfl, HV2⟩
      · have HW3 : Hd (R = refAt ws 2 lo (hi) tick) := hid (by rw [HW2.out, if_neg h12])
        have d1 : decide (11 < lo) = false := by simp; omega
        have d2 : (lo == hi) = false := by simp; omega
        have d3 : decide (lo < 0) = false := by simp; omega
        clear HW2
        go_enter Try.func27, Try.ntmps27
        go_upto_region 1 with fail
        go_wp2_with fail
        refine (refAt_any v ws 2 lo (hi) tick _ ((HV.out.keep KA.out (fun _ _ _ h => h)).mono (fun b h _ => h))).mono ?_
        rw [← HW3.out]
        rintro e w1 ⟨hp, hk⟩
        have B1 : Hd (Blk w1 w.heap.size #[.int .i64 0, .int .i64 0, .int .i64 0, .int .i64 0, .int .i64 0, .int .i64 0] 54) := hid (blk_keep BA.out hk (fun h => h))
        have K1 := hid (KA.out.trans hk)
        clear hk KA BA HW3
        have o0 : w1.cell? ⟨w.heap.size, 0, none⟩ = some (.int .i64 0) := blk_cell B1.out 0
        have f0 : w1.frozen? ⟨w.heap.size, 0, none⟩ = false := blk_free B1.out 0
        have o1 : w1.cell? ⟨w.heap.size, 1, none⟩ = some (.int .i64 0) := blk_cell B1.out 1
        have f1 : w1.frozen? ⟨w.heap.size, 1, none⟩ = false := blk_free B1.out 1
        have o2 : w1.cell? ⟨w.heap.size, 2, none⟩ = some (.int .i64 0) := blk_cell B1.out 2
        have f2 : w1.frozen? ⟨w.heap.size, 2, none⟩ = false := blk_free B1.out 2
        have o3 : w1.cell? ⟨w.heap.size, 3, none⟩ = some (.int .i64 0) := blk_cell B1.out 3
        have f3 : w1.frozen? ⟨w.heap.size, 3, none⟩ = false := blk_free B1.out 3
        have o4 : w1.cell? ⟨w.heap.size, 4, none⟩ = some (.int .i64 0) := blk_cell B1.out 4
        have f4 : w1.frozen? ⟨w.heap.size, 4, none⟩ = false := blk_free B1.out 4
        have o5 : w1.cell? ⟨w.heap.size, 5, none⟩ = some (.int .i64 0) := blk_cell B1.out 5
        have f5 : w1.frozen? ⟨w.heap.size, 5, none⟩ = false := blk_free B1.out 5
        cases R with
        | none =>
          obtain rfl := hp
          go_wp2
          obtain ⟨HV2, B3⟩ := fin6 K1.out (Nat.le_refl _) B1.out (.int .i64 0) (.int .i64 0) (.int .i64 0) (.int .i64 0) (.int .i64 0) (.int .i64 0)
          have r0 := blk_cell B3 0
          have r1 := blk_cell B3 1
          have r2 := blk_cell B3 2
          have r3 := blk_cell B3 3
          have r4 := blk_cell B3 4
          have r5 := blk_cell B3 5
          refine bodyPost_ret (v := .tuple #[.agg #[.int .i64 0, .int .i64 0, .int .i64 0, .int .i64 0, .int .i64 0, .int .i64 0], .bool false]) (by simp [results, Try.results27, go_sem, r0, r1, r2, r3, r4, r5]) rfl ⟨rfl, HV2⟩
        | some x =>
          obtain rfl := hp
          go_wp2
          obtain ⟨HV2, B3⟩ := fin6 K1.out (Nat.le_refl _) B1.out (.int .i64 x.k) (.int .i64 x.a) (.int .i64 x.b) (.int .i64 x.f) (.int .i64 x.u) (.int .i64 x.r)
          have r0 := blk_cell B3 0
          have r1 := blk_cell B3 1
          have r2 := blk_cell B3 2
          have r3 := blk_cell B3 3
          have r4 := blk_cell B3 4
          have r5 := blk_cell B3 5
          refine bodyPost_ret (v := .tuple #[.agg #[.int .i64 x.k, .int .i64 x.a, .int .i64 x.b, .int .i64 x.f, .int .i64 x.u, .int .i64 x.r], .bool true]) (by simp [results, Try.results27, go_sem, r0, r1, r2, r3, r4, r5]) rfl ⟨rfl, HV2⟩
def refOpenB (ws : List Win) (fr tt tick : Int) : Bool := (refW ws fr tt tick).isSome
def OpenB (ws : List Win) (fr tt tick : Int) : Bool := (winW ws fr tt tick).isSome
end Go.Proofs.Ytjapmpolagblaaa
