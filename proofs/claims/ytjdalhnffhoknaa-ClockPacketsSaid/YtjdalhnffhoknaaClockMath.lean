/- The plain laws of the clock: numbers alone. -/
import Derived.WalkKit
namespace Go.Proofs.Ytjdalhnffhoknaa
open Go.RowKit

def lim (n : Int) : Int := min (max n 0) 1000000
def ceil (a b : Int) : Int := a / b + min (a % b) 1
theorem lim_lo (n : Int) : 0 ≤ lim n := by unfold lim; omega
theorem lim_hi (n : Int) : lim n ≤ 1000000 := by unfold lim; omega
theorem div_le_self' {a b : Int} (ha : 0 ≤ a) (hb : 1 ≤ b) : a / b ≤ a := by
  have h1 := Int.mul_ediv_add_emod a b
  have h2 := Int.emod_nonneg a (show b ≠ 0 by omega)
  have h3 : 0 ≤ a / b := Int.ediv_nonneg ha (by omega)
  have h4 : 1 * (a / b) ≤ b * (a / b) := Int.mul_le_mul_of_nonneg_right hb h3
  omega
/-- the program's way to round up is the reference's -/
theorem ceil_eq {a b : Int} (ha : 0 ≤ a) (hb : 1 ≤ b) : (a + b - 1) / b = ceil a b := by
  unfold ceil
  have h1 := Int.mul_ediv_add_emod a b
  have h2 := Int.emod_nonneg a (show b ≠ 0 by omega)
  have h3 := Int.emod_lt_of_pos a (show 0 < b by omega)
  by_cases h : a % b = 0
  · have e : a + b - 1 = (b - 1) + b * (a / b) := by omega
    rw [e, Int.add_mul_ediv_left _ _ (by omega), Int.ediv_eq_zero_of_lt (by omega) (by omega), h]
    omega
  · have e : a + b - 1 = (a % b - 1) + b * (a / b + 1) := by rw [Int.mul_add]; omega
    rw [e, Int.add_mul_ediv_left _ _ (by omega), Int.ediv_eq_zero_of_lt (by omega) (by omega)]
    have : min (a % b) 1 = 1 := by omega
    omega
theorem ceil_nonneg {a b : Int} (ha : 0 ≤ a) (hb : 1 ≤ b) : 0 ≤ ceil a b := by
  unfold ceil
  have h2 := Int.emod_nonneg a (show b ≠ 0 by omega)
  have h3 : 0 ≤ a / b := Int.ediv_nonneg ha (by omega)
  omega
theorem ceil_le {a b : Int} (ha : 0 ≤ a) (hb : 1 ≤ b) : ceil a b ≤ a := by
  unfold ceil
  have h1 := Int.mul_ediv_add_emod a b
  have h2 := Int.emod_nonneg a (show b ≠ 0 by omega)
  have h3 : 0 ≤ a / b := Int.ediv_nonneg ha (by omega)
  have h4 : 1 * (a / b) ≤ b * (a / b) := Int.mul_le_mul_of_nonneg_right hb h3
  omega
theorem ceil_mul {a b : Int} (hb : 1 ≤ b) : a ≤ b * ceil a b := by
  unfold ceil
  have h1 := Int.mul_ediv_add_emod a b
  have h2 := Int.emod_nonneg a (show b ≠ 0 by omega)
  have h3 := Int.emod_lt_of_pos a (show 0 < b by omega)
  rw [Int.mul_add]
  by_cases h : a % b = 0
  · rw [h, show min (0 : Int) 1 = 0 by omega, Int.mul_zero]; omega
  · have : min (a % b) 1 = 1 := by omega
    rw [this]; omega
theorem ceil_least {a b c : Int} (hb : 1 ≤ b) (h : a ≤ b * c) : ceil a b ≤ c := by
  unfold ceil
  have h1 := Int.mul_ediv_add_emod a b
  have h2 := Int.emod_nonneg a (show b ≠ 0 by omega)
  have h3 := Int.emod_lt_of_pos a (show 0 < b by omega)
  by_cases hz : a % b = 0
  · rw [hz]
    have : a / b ≤ c := by
      rcases Int.lt_or_le c (a / b) with hlt | hle
      · have h4 : b * (c + 1) ≤ b * (a / b) := Int.mul_le_mul_of_nonneg_left (by omega) (by omega)
        rw [Int.mul_add] at h4
        omega
      · exact hle
    omega
  · have : a / b < c := by
      rcases Int.lt_or_le (a / b) c with hlt | hle
      · exact hlt
      · have h4 : b * c ≤ b * (a / b) := Int.mul_le_mul_of_nonneg_left hle (by omega)
        omega
    omega
theorem ceil_add {a b d : Int} (hd : 1 ≤ d) : ceil (a + b) d ≤ ceil a d + ceil b d := by
  apply ceil_least hd
  have h1 := ceil_mul (a := a) hd
  have h2 := ceil_mul (a := b) hd
  rw [Int.mul_add]; omega

/-- n modulo most, never negative -/
def around (n most : Int) : Int := (if n < 0 then -(n + 1) else n) % most
theorem around_lo {n most : Int} (h : 1 ≤ most) : 0 ≤ around n most := by unfold around; exact Int.emod_nonneg _ (by omega)
theorem around_lt {n most : Int} (h : 1 ≤ most) : around n most < most := by unfold around; exact Int.emod_lt_of_pos _ (by omega)

structure Iv where
  lo : Int
  hi : Int
def adv (t : Iv) (c d : Int) : Iv := ⟨lim (t.lo + c - ceil c d), lim (t.hi + c + ceil c d)⟩
structure Sm where
  sent : Int
  recv : Int
  tick : Int
/-- the interval of a correlation -/
def corIv (s : Sm) (now d : Int) : Iv := adv ⟨s.tick, lim (s.tick + (s.recv - s.sent) + ceil (s.recv - s.sent) d)⟩ (now - s.recv) d
def Sm.bad (s : Sm) (now : Int) : Prop := s.sent < 0 ∨ s.recv < s.sent ∨ now < s.recv ∨ s.tick < 0 ∨ 1000000 < s.tick
instance (s : Sm) (now : Int) : Decidable (s.bad now) := by unfold Sm.bad; infer_instance
def meet (t x : Iv) : Iv := ⟨max x.lo t.lo, min x.hi t.hi⟩
/-- the interval and the error -/
def cor (t : Iv) (s : Sm) (now d : Int) : Iv × Int :=
  if s.bad now then (⟨0, 0⟩, 1) else if (meet t (corIv s now d)).hi < (meet t (corIv s now d)).lo then (⟨0, 0⟩, 22) else (meet t (corIv s now d), 0)
def judge (t : Iv) (f u : Int) : Int := if u ≤ t.hi then 1 else if t.lo < f then -1 else 0
def unwr (last low : Int) : Int := last + (low.tmod 65536 - last.tmod 65536 + 131072) % 65536

theorem adv_lo (t : Iv) (c d : Int) : 0 ≤ (adv t c d).lo ∧ (adv t c d).lo ≤ 1000000 := ⟨lim_lo _, lim_hi _⟩
theorem adv_hi (t : Iv) (c d : Int) : 0 ≤ (adv t c d).hi ∧ (adv t c d).hi ≤ 1000000 := ⟨lim_lo _, lim_hi _⟩

/-- two correlations, in either order -/
def cor2 (t : Iv) (s u : Sm) (now d : Int) : Iv × Int := if (cor t s now d).2 = 0 then cor (cor t s now d).1 u now d else cor t s now d
theorem iv_ext {a b : Iv} (h1 : a.lo = b.lo) (h2 : a.hi = b.hi) : a = b := by cases a; cases b; simp_all
theorem cor2_comm (t : Iv) (s u : Sm) (now d : Int) (hs : ¬ s.bad now) (hu : ¬ u.bad now) : cor2 t s u now d = cor2 t u s now d := by
  unfold cor2 cor
  rw [if_neg hs, if_neg hu]
  generalize corIv s now d = x
  generalize corIv u now d = y
  unfold meet
  by_cases h1 : min x.hi t.hi < max x.lo t.lo
  · by_cases h2 : min y.hi t.hi < max y.lo t.lo
    · simp [h1, h2, hs, hu]
    · have h3 : min x.hi (min y.hi t.hi) < max x.lo (max y.lo t.lo) := by omega
      simp [h1, h2, h3, hs, hu]
  · by_cases h2 : min y.hi t.hi < max y.lo t.lo
    · have h3 : min y.hi (min x.hi t.hi) < max y.lo (max x.lo t.lo) := by omega
      simp [h1, h2, h3, hs, hu]
    · simp only [h1, h2, if_false, hs, hu]
      simp only [if_true]
      by_cases h3 : min y.hi (min x.hi t.hi) < max y.lo (max x.lo t.lo)
      · have h4 : min x.hi (min y.hi t.hi) < max x.lo (max y.lo t.lo) := by omega
        simp [h3, h4]
      · have h4 : ¬ min x.hi (min y.hi t.hi) < max x.lo (max y.lo t.lo) := by omega
        rw [if_neg h3, if_neg h4]
        refine Prod.ext (iv_ext ?_ ?_) rfl
        · simp only; omega
        · simp only; omega
/-- two steps contain the single one -/
theorem adv_split (t : Iv) (a b d : Int) (h0 : 0 ≤ t.lo) (h1 : t.lo ≤ t.hi) (h2 : t.hi ≤ 1000000) (ha : 0 ≤ a) (hb : 0 ≤ b) (hd : 1 ≤ d) :
    (adv (adv t a d) b d).lo ≤ (adv t (a + b) d).lo ∧ (adv t (a + b) d).hi ≤ (adv (adv t a d) b d).hi ∧ (adv t (a + b) d).lo ≤ (adv t (a + b) d).hi := by
  have e1 := ceil_add (a := a) (b := b) hd
  have e2 := ceil_le ha hd
  have e3 := ceil_le hb hd
  have e4 := ceil_nonneg ha hd
  have e5 := ceil_nonneg hb hd
  have e6 := ceil_nonneg (show 0 ≤ a + b by omega) hd
  unfold adv
  simp only
  generalize ceil (a + b) d = g at *
  generalize ceil a d = e at *
  generalize ceil b d = f at *
  unfold lim
  refine ⟨?_, ?_, ?_⟩ <;> omega
theorem unwr_ref (last low : Int) (h : 0 ≤ last) : unwr last low = (if last - last.tmod 65536 + (if low.tmod 65536 < 0 then low.tmod 65536 + 65536 else low.tmod 65536) < last then last - last.tmod 65536 + (if low.tmod 65536 < 0 then low.tmod 65536 + 65536 else low.tmod 65536) + 65536 else last - last.tmod 65536 + (if low.tmod 65536 < 0 then low.tmod 65536 + 65536 else low.tmod 65536)) := by
  unfold unwr
  have h1 : -65536 < low.tmod 65536 ∧ low.tmod 65536 < 65536 := by
    have h4 : (low.tmod 65536).natAbs < 65536 := by
      rw [Int.natAbs_tmod]
      exact Nat.mod_lt _ (by decide)
    omega
  have h2 : 0 ≤ last.tmod 65536 ∧ last.tmod 65536 < 65536 := by
    rw [Int.tmod_eq_emod_of_nonneg h]; omega
  generalize low.tmod 65536 = x at *
  generalize last.tmod 65536 = y at *
  split <;> split <;> omega
theorem unwr_near (n k : Int) (h : 0 ≤ n) (hk : 0 ≤ k) (hk2 : k < 65536) : unwr n ((n + k).tmod 65536) = n + k := by
  unfold unwr
  rw [Int.tmod_eq_emod_of_nonneg (a := n) h, Int.tmod_eq_emod_of_nonneg (a := n + k) (by omega), Int.tmod_eq_emod_of_nonneg (by omega)]
  omega
theorem judge_zero (t : Iv) (f u : Int) : judge t f u = 0 ↔ (f ≤ t.lo ∧ t.hi < u) := by
  unfold judge; split
  · omega
  · split <;> omega
theorem judge_past (t : Iv) (f u c d : Int) (h2 : t.hi ≤ 1000000) (h3 : 0 ≤ t.hi) (hc : 0 ≤ c) (hd : 1 ≤ d) (h : judge t f u = 1) : judge (adv t c d) f u = 1 := by
  have h4 : u ≤ t.hi := by
    unfold judge at h; split at h
    · assumption
    · split at h <;> omega
  have h5 := ceil_nonneg hc hd
  unfold judge adv lim
  simp only
  rw [if_pos (by omega)]
/-- soundness -/
theorem sound (t : Iv) (sent took since d a b c k : Int) (h0 : 0 ≤ t.lo) (h1 : t.lo ≤ t.hi) (h2 : t.hi ≤ 1000000) (ht : 0 ≤ took) (hs : 0 ≤ since) (hd : 1 ≤ d) (hsent : 0 ≤ sent)
    (ha0 : 0 ≤ a) (ha : a < t.hi - t.lo + 1) (hb0 : 0 ≤ b) (hb : b < 2 * ceil took d + 1) (hc0 : 0 ≤ c) (hc : c < 2 * ceil since d + 1)
    (hk0 : 0 ≤ k) (hk : k < took - ceil took d + b + 1)
    (hnow : t.lo + a + (took - ceil took d + b) + since - ceil since d + c ≤ 1000000) :
    (adv (adv t took d) since d).lo ≤ t.lo + a + (took - ceil took d + b) + since - ceil since d + c ∧ t.lo + a + (took - ceil took d + b) + since - ceil since d + c ≤ (adv (adv t took d) since d).hi ∧
    (cor (adv (adv t took d) since d) ⟨sent, sent + took, t.lo + a + k⟩ (sent + took + since) d).2 = 0 ∧
    (cor (adv (adv t took d) since d) ⟨sent, sent + took, t.lo + a + k⟩ (sent + took + since) d).1.lo ≤ t.lo + a + (took - ceil took d + b) + since - ceil since d + c ∧
    t.lo + a + (took - ceil took d + b) + since - ceil since d + c ≤ (cor (adv (adv t took d) since d) ⟨sent, sent + took, t.lo + a + k⟩ (sent + took + since) d).1.hi ∧
    (adv (adv t took d) since d).lo ≤ (cor (adv (adv t took d) since d) ⟨sent, sent + took, t.lo + a + k⟩ (sent + took + since) d).1.lo ∧
    (cor (adv (adv t took d) since d) ⟨sent, sent + took, t.lo + a + k⟩ (sent + took + since) d).1.hi ≤ (adv (adv t took d) since d).hi := by
  have e2 := ceil_le ht hd
  have e3 := ceil_le hs hd
  have e4 := ceil_nonneg ht hd
  have e5 := ceil_nonneg hs hd
  have hbad : ¬ Sm.bad ⟨sent, sent + took, t.lo + a + k⟩ (sent + took + since) := by
    unfold Sm.bad; simp only; omega
  have x1 : sent + took - sent = took := by omega
  have x2 : sent + took + since - (sent + took) = since := by omega
  have key : ∀ m : Iv, m = meet (adv (adv t took d) since d) (corIv ⟨sent, sent + took, t.lo + a + k⟩ (sent + took + since) d) →
      m.lo ≤ t.lo + a + (took - ceil took d + b) + since - ceil since d + c ∧ t.lo + a + (took - ceil took d + b) + since - ceil since d + c ≤ m.hi ∧ (adv (adv t took d) since d).lo ≤ m.lo ∧ m.hi ≤ (adv (adv t took d) since d).hi := by
    rintro m rfl
    unfold meet corIv adv
    simp only [x1, x2]
    generalize ceil took d = e at *
    generalize ceil since d = f at *
    unfold lim
    refine ⟨?_, ?_, ?_, ?_⟩ <;> omega
  have k1 := key _ rfl
  refine ⟨by omega, by omega, ?_⟩
  unfold cor
  rw [if_neg hbad, if_neg (by omega)]
  exact ⟨rfl, k1.1, k1.2.1, k1.2.2⟩
end Go.Proofs.Ytjdalhnffhoknaa
