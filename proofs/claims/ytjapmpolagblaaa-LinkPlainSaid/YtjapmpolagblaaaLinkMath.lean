/- Plain laws of links: windows, flights, steps. -/
import Derived.Test.YtjapmpolagblaaaLinkK
namespace Go.Proofs.Ytjapmpolagblaaa
open Go.RowKit
def refAt (ws : List Win) (kind a b tick : Int) : Option Win := ws.find? (fun x => x.key kind a b && decide (x.f ≤ tick) && decide (tick < x.u))
theorem refAt_eq {ws : List Win} (h : ws.Pairwise (fun x y => x.f ≤ y.f)) (kind a b tick : Int) : refAt ws kind a b tick = atW ws kind a b tick := by
  induction ws with
  | nil => rfl
  | cons x ws ih =>
    rw [List.pairwise_cons] at h
    have ih := ih h.2
    unfold refAt atW nextW at *
    by_cases hk : x.key kind a b = true
    · by_cases hu : tick < x.u
      · by_cases hf : x.f ≤ tick
        · simp [List.find?, List.filter, hk, hu, hf]
        · have : ws.find? (fun x => x.key kind a b && decide (x.f ≤ tick) && decide (tick < x.u)) = none := by
            rw [List.find?_eq_none]
            intro y hy
            have := h.1 y hy
            simp; omega
          simp [List.find?, List.filter, hk, hu, hf, this]
      · simp only [List.find?, List.filter, hk, hu, decide_false, Bool.and_false]
        exact ih
    · simp only [List.find?, List.filter, hk, Bool.false_and]
      exact ih
def refW (ws : List Win) (fr tt tick : Int) : Option Win :=
  if min fr tt < 0 ∨ 12 ≤ min fr tt ∨ fr = tt then none else if 12 ≤ max fr tt then refAt ws 1 (min fr tt) (max fr tt - 12) tick else refAt ws 2 (min fr tt) (max fr tt) tick
theorem refW_eq {ws : List Win} (h : ws.Pairwise (fun x y => x.f ≤ y.f)) (fr tt tick : Int) : refW ws fr tt tick = winW ws fr tt tick := by
  unfold refW winW
  rw [refAt_eq h, refAt_eq h]
theorem winW_comm (ws : List Win) (fr tt tick : Int) : winW ws fr tt tick = winW ws tt fr tick := by
  unfold winW
  rw [Int.min_comm, Int.max_comm]
  simp only [eq_comm (a := fr) (b := tt)]
/-- flights in the order of their ticks -/
def Srt (l : List Flt) : Prop := l.Pairwise (fun x y => x.t ≤ y.t)
theorem mem_putL {l : List Flt} {x y : Flt} (h : y ∈ putL l x) : y ∈ l ∨ y = x := by
  unfold putL at h
  rcases List.mem_append.1 h with h | h
  · exact .inl (List.mem_of_mem_take h)
  · rcases List.mem_cons.1 h with h | h
    · exact .inr h
    · exact .inl (List.mem_of_mem_drop h)
theorem takeW_take {α : Type} (p : α → Bool) (l : List α) : l.take (l.takeWhile p).length = l.takeWhile p := by
  induction l with
  | nil => rfl
  | cons x l ih => simp only [List.takeWhile]; split <;> simp [ih]
theorem takeW_drop {α : Type} (p : α → Bool) (l : List α) : l.drop (l.takeWhile p).length = l.dropWhile p := by
  induction l with
  | nil => rfl
  | cons x l ih => simp only [List.takeWhile, List.dropWhile]; split <;> simp [ih]
theorem dropW_hd {α : Type} {p : α → Bool} {l : List α} {y : α} {r : List α} (h : l.dropWhile p = y :: r) : p y = false := by
  induction l with
  | nil => simp at h
  | cons x l ih =>
    simp only [List.dropWhile] at h
    split at h
    · exact ih h
    · rename_i hp; injection h with h1 h2; subst h1; simpa using hp
theorem srt_putL {l : List Flt} {x : Flt} (h : Srt l) : Srt (putL l x) := by
  unfold Srt putL putK at *
  rw [takeW_take, takeW_drop]
  have h0 : (l.takeWhile (fBefore x) ++ l.dropWhile (fBefore x)).Pairwise (fun x y => x.t ≤ y.t) := by rw [List.takeWhile_append_dropWhile]; exact h
  rw [List.pairwise_append] at h0 ⊢
  obtain ⟨h1, h2, h3⟩ := h0
  have hd : ∀ y ∈ l.dropWhile (fBefore x), x.t ≤ y.t := by
    cases hr : l.dropWhile (fBefore x) with
    | nil => simp
    | cons y r =>
      have hy := dropW_hd hr
      have hy2 : x.t ≤ y.t := by simp [fBefore] at hy; omega
      rw [hr, List.pairwise_cons] at h2
      intro z hz
      rcases List.mem_cons.1 hz with rfl | hz
      · exact hy2
      · have := h2.1 z hz; omega
  refine ⟨h1, List.pairwise_cons.2 ⟨hd, h2⟩, fun y hy z hz => ?_⟩
  have hyx : y.t ≤ x.t := by
    have : fBefore x y = true := (List.all_eq_true.1 (List.all_takeWhile)) y hy
    simp [fBefore] at this; omega
  rcases List.mem_cons.1 hz with rfl | hz
  · exact hyx
  · exact h3 y hy z hz
/-- the flights that a step returns, and those that it leaves -/
theorem step_take {l : List Flt} (h : Srt l) (tick : Int) : l.take (stepK l tick) = l.filter (fun x => decide (x.t ≤ tick)) ∧ l.drop (stepK l tick) = l.filter (fun x => decide (tick < x.t)) := by
  unfold stepK
  rw [takeW_take, takeW_drop]
  induction l with
  | nil => simp
  | cons x l ih =>
    unfold Srt at h ih
    rw [List.pairwise_cons] at h
    have ih := ih h.2
    by_cases hx : x.t ≤ tick
    · have hx2 : ¬ tick < x.t := by omega
      simp [List.takeWhile, List.dropWhile, hx, hx2, ih.1, ih.2]
    · have hx2 : tick < x.t := by omega
      have e1 : l.filter (fun x => decide (x.t ≤ tick)) = [] := by
        rw [List.filter_eq_nil_iff]; intro y hy; have := h.1 y hy; simp; omega
      have e2 : l.filter (fun x => decide (tick < x.t)) = l := by
        rw [List.filter_eq_self]; intro y hy; have := h.1 y hy; simp; omega
      simp [List.takeWhile, List.dropWhile, hx, hx2, e1, e2]
theorem srt_drop {l : List Flt} (h : Srt l) (k : Nat) : Srt (l.drop k) := List.Pairwise.sublist (List.drop_sublist k l) h
theorem stepK_all {l : List Flt} {tick : Int} (h : ∀ x ∈ l, x.t ≤ tick) : stepK l tick = l.length := by
  unfold stepK
  have : l.takeWhile (fun x => decide (x.t ≤ tick)) = l := by
    induction l with
    | nil => rfl
    | cons x l ih => simp only [List.takeWhile, decide_eq_true (h x (by simp))]; rw [ih (fun y hy => h y (by simp [hy]))]
  rw [this]
theorem stepK_none {l : List Flt} {tick : Int} (h : ∀ x ∈ l, tick < x.t) : stepK l tick = 0 := by
  unfold stepK
  cases l with
  | nil => rfl
  | cons x l =>
    have := h x (by simp)
    have e : decide (x.t ≤ tick) = false := by simp; omega
    simp [List.takeWhile, e]
/-- two steps are one -/
theorem step_two {l : List Flt} {n m : Int} (h : n ≤ m) : stepK l m = stepK l n + stepK (l.drop (stepK l n)) m := by
  unfold stepK
  rw [takeW_drop]
  induction l with
  | nil => rfl
  | cons x l ih =>
    by_cases hx : x.t ≤ n
    · have hx2 : x.t ≤ m := by omega
      simp only [List.takeWhile, List.dropWhile, decide_eq_true hx, decide_eq_true hx2, List.length_cons]
      omega
    · simp [List.takeWhile, List.dropWhile, hx]
def refQuiet (l : List Flt) : Int := l.foldl (fun o x => max o (x.t + 1)) 0
theorem quiet_eq {l : List Flt} (h : Srt l) (h0 : ∀ x ∈ l, 0 ≤ x.t) : refQuiet l = quietL l := by
  unfold refQuiet quietL
  have key : ∀ (l : List Flt) (o : Int), Srt l → (∀ x ∈ l, o ≤ x.t + 1) → l.foldl (fun o x => max o (x.t + 1)) o = match l.getLast? with | some x => x.t + 1 | none => o := by
    intro l
    induction l with
    | nil => intro o _ _; rfl
    | cons x l ih =>
      intro o hs ho
      unfold Srt at hs
      rw [List.pairwise_cons] at hs
      simp only [List.foldl_cons]
      have e : max o (x.t + 1) = x.t + 1 := by have := ho x (by simp); omega
      rw [e, ih (x.t + 1) hs.2 (fun y hy => by have := hs.1 y hy; omega)]
      cases l with
      | nil => rfl
      | cons y l => rw [List.getLast?_cons_cons]; simp [List.getLast?_cons]
  exact key l 0 h (fun x hx => by have := h0 x hx; omega)
theorem quiet_last {l : List Flt} (h : Srt l) : ∀ x ∈ l, x.t ≤ quietL l - 1 := by
  unfold quietL
  intro x hx
  rcases List.eq_nil_or_concat l with rfl | ⟨r, y, rfl⟩
  · simp at hx
  · rw [List.concat_eq_append] at *
    simp only [List.getLast?_append, List.getLast?_singleton, Option.some_or]
    unfold Srt at h
    rw [List.pairwise_append] at h
    rcases List.mem_append.1 hx with hx | hx
    · have := h.2.2 x hx y (by simp); omega
    · simp at hx; subst hx; omega
/-- what holds of the flights of a link that was sent to -/
structure Good (l : List Flt) (N : Nat) (tick : Int) : Prop where
  srt : Srt l
  len : l.length ≤ N
  t : ∀ x ∈ l, 0 ≤ x.t ∧ x.t ≤ tick + 1001
  d : ∀ x ∈ l, x.d.length ≤ 100 ∧ ∀ c ∈ x.d, c < 256
theorem good_nil : Good [] 0 0 := ⟨List.Pairwise.nil, Nat.le_refl _, by simp, by simp⟩
theorem good_mono {l : List Flt} {N M : Nat} {t u : Int} (h : Good l N t) (hN : N ≤ M) (ht : t ≤ u) : Good l M u :=
  ⟨h.srt, Nat.le_trans h.len hN, fun x hx => by have := h.t x hx; omega, h.d⟩
theorem good_put {l : List Flt} {N : Nat} {t : Int} {x : Flt} (h : Good l N t) (h1 : 0 ≤ x.t ∧ x.t ≤ t + 1001) (h2 : x.d.length ≤ 100 ∧ ∀ c ∈ x.d, c < 256) : Good (putL l x) (N + 1) t :=
  ⟨srt_putL h.srt, by rw [putL_length]; have := h.len; omega, fun y hy => by rcases mem_putL hy with hy | rfl <;> first | exact h.t _ hy | exact h1, fun y hy => by rcases mem_putL hy with hy | rfl <;> first | exact h.d _ hy | exact h2⟩
theorem spoil_ok {b : List Nat} {x : Ft} (h1 : b.length ≤ 100) (h2 : ∀ c ∈ b, c < 256) (h3 : x.fg.length ≤ 100) (h4 : ∀ c ∈ x.fg, c < 256) : (spoilL b x).length ≤ 100 ∧ ∀ c ∈ spoilL b x, c < 256 := by
  unfold spoilL
  split
  · exact ⟨h3, h4⟩
  · split
    · exact ⟨by rw [List.length_take]; omega, fun c hc => h2 c (List.mem_of_mem_take hc)⟩
    · split
      · refine ⟨by rw [List.length_set]; exact h1, fun c hc => ?_⟩
        rcases List.mem_or_eq_of_mem_set hc with hc | rfl
        · exact h2 c hc
        · omega
      · exact ⟨h1, h2⟩
theorem good_send {l : List Flt} {N : Nat} {t tick : Int} {cn : Int} {ws : List Win} {fts : List Ft} {fr tt : Int} {data : List Nat} (h : Good l N t) (h0 : 0 ≤ tick) (ht : t ≤ tick) (h1 : data.length ≤ 100) (h2 : ∀ c ∈ data, c < 256)
    (h3 : ∀ x ∈ fts, x.fg.length ≤ 100 ∧ ∀ c ∈ x.fg, c < 256) : Good (sendL l cn ws fts tick fr tt data).1 (N + 2) tick := by
  have hf : (fateL fts cn).fg.length ≤ 100 ∧ ∀ c ∈ (fateL fts cn).fg, c < 256 := by
    unfold fateL
    cases hx : fts.find? (fun x => x.m == cn) with
    | none => simp [Ft.nil]
    | some x => exact h3 x (List.mem_of_find?_eq_some hx)
  have hsp := spoil_ok (x := fateL fts cn) h1 h2 hf.1 hf.2
  unfold sendL sendR
  split
  · exact good_mono h (by omega) ht
  · split
    · exact good_mono h (by omega) ht
    · obtain ⟨hd1, hd2⟩ := delays_ok (fateL fts cn)
      have key : ∀ (ds : List Int) (l : List Flt) (N : Nat), (∀ d ∈ ds, 0 ≤ d ∧ d ≤ 1000) → Good l N tick → Good (sentL l (fateL fts cn) cn tick fr tt data ds) (N + ds.length) tick := by
        intro ds
        induction ds with
        | nil => intro l N _ h; exact h
        | cons d ds ih =>
          intro l N hd h
          have := hd d (by simp)
          have := ih (putL l (flight (fateL fts cn) cn tick fr tt data d)) (N + 1) (fun e he => hd e (by simp [he])) (good_put h (by unfold flight; simp; omega) hsp)
          unfold sentL at *
          simp only [List.foldl_cons, List.length_cons]
          rw [show N + (ds.length + 1) = N + 1 + ds.length by omega]
          exact this
      exact good_mono (key _ l N hd2 (good_mono h (Nat.le_refl _) ht)) (by omega) (Int.le_refl _)
end Go.Proofs.Ytjapmpolagblaaa
