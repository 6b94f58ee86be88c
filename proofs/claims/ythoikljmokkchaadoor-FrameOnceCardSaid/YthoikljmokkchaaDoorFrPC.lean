/- Frame: what the report tells. -/
import Derived.Test.YthoikljmokkchaaDoorFrPB
namespace Go.Proofs.YthoikljmokkchaaDoor
open Go.RowKit Go.Shelf
theorem i64_or_nat (a b : Nat) (ha : a < 4611686018427387904) (hb : b < 4611686018427387904) : bits .or .i64 (a : Int) (b : Int) = ((a ||| b : Nat) : Int) := by
  have hx : a ||| b < 2 ^ 62 := Nat.or_lt_two_pow (by omega) (by omega)
  show IntKind.i64.wrap ((BitVec.ofInt 64 (a : Int) ||| BitVec.ofInt 64 (b : Int)).toNat : Int) = _
  rw [BitVec.toNat_or, ofInt_u64 a (by omega), ofInt_u64 b (by omega)]
  exact IntWalk.i64_in _ (by omega)
theorem i64_and_nat (a b : Nat) (ha : a < 4611686018427387904) (hb : b < 4611686018427387904) : bits .and .i64 (a : Int) (b : Int) = ((a &&& b : Nat) : Int) := by
  have hx : a &&& b < 2 ^ 62 := Nat.and_lt_two_pow _ (by omega)
  show IntKind.i64.wrap ((BitVec.ofInt 64 (a : Int) &&& BitVec.ofInt 64 (b : Int)).toNat : Int) = _
  rw [BitVec.toNat_and, ofInt_u64 a (by omega), ofInt_u64 b (by omega)]
  exact IntWalk.i64_in _ (by omega)
/-- the place of a frame in a report -/
def bitAt (nx q : Int) : Nat := (q - nx).toNat - 1
def havN (nx : Int) (h : Nat) (l : List Fr) : Nat := l.foldl (fun h x => h ||| 2 ^ bitAt nx x.q) h
theorem pow_in {n : Nat} (h : n ≤ 60) : 2 ^ n < 4611686018427387904 := by
  have : 2 ^ n ≤ 2 ^ 60 := Nat.pow_le_pow_right (by omega) h
  exact Nat.lt_of_le_of_lt this (by decide)
theorem putI_nat {h : Nat} {d : Int} (hh : h < 4611686018427387904) (hd : d ≤ 61) : putI (h : Int) d = ((h ||| 2 ^ (d.toNat - 1) : Nat) : Int) := by
  have hp := pow_in (n := d.toNat - 1) (by omega)
  have e : wrap64 (2 ^ (d.toNat - 1)) = ((2 ^ (d.toNat - 1) : Nat) : Int) := by
    rw [show ((2 : Int) ^ (d.toNat - 1)) = ((2 ^ (d.toNat - 1) : Nat) : Int) by simp]
    generalize 2 ^ (d.toNat - 1) = p at hp ⊢
    exact IntWalk.wrap64_in _ (by omega)
  unfold putI
  rw [e]; exact i64_or_nat h _ hh hp
theorem havN_lt {nx : Int} : ∀ {l : List Fr} {h : Nat}, h < 4611686018427387904 → (∀ x ∈ l, x.q ≤ nx + 60) → havN nx h l < 4611686018427387904 := by
  intro l
  induction l with
  | nil => intro h hh _; exact hh
  | cons x l ih =>
    intro h hh hx
    refine ih (h := h ||| 2 ^ bitAt nx x.q) ?_ (fun y hy => hx y (List.mem_cons_of_mem _ hy))
    have hp : 2 ^ bitAt nx x.q < 4611686018427387904 := pow_in (by have := hx x List.mem_cons_self; unfold bitAt; omega)
    exact Nat.or_lt_two_pow (n := 62) (by omega) (by omega)
theorem havI_nat {nx : Int} : ∀ {l : List Fr} {h : Nat}, h < 4611686018427387904 → (∀ x ∈ l, x.q ≤ nx + 60) → l.foldl (fun h x => putI h (x.q - nx)) (h : Int) = ((havN nx h l : Nat) : Int) := by
  intro l
  induction l with
  | nil => intro h _ _; rfl
  | cons x l ih =>
    intro h hh hx
    have h1 := hx x List.mem_cons_self
    have hp : 2 ^ bitAt nx x.q < 4611686018427387904 := pow_in (by unfold bitAt; omega)
    show List.foldl _ (putI (h : Int) (x.q - nx)) l = _
    rw [putI_nat hh (by omega)]
    exact ih (h := h ||| 2 ^ bitAt nx x.q) (Nat.or_lt_two_pow (n := 62) (by omega) (by omega)) (fun y hy => hx y (List.mem_cons_of_mem _ hy))
theorem havI_eq {nx : Int} {l : List Fr} (hx : ∀ x ∈ l, x.q ≤ nx + 60) : havI nx l = ((havN nx 0 l : Nat) : Int) := havI_nat (h := 0) (by omega) hx
theorem havN_bit {nx : Int} : ∀ {l : List Fr} {h : Nat} (i : Nat), (havN nx h l).testBit i = true ↔ h.testBit i = true ∨ ∃ x ∈ l, bitAt nx x.q = i := by
  intro l
  induction l with
  | nil => intro h i; simp [havN]
  | cons x l ih =>
    intro h i
    have := ih (h := h ||| 2 ^ bitAt nx x.q) i
    show (havN nx (h ||| 2 ^ bitAt nx x.q) l).testBit i = true ↔ _
    rw [this, Nat.testBit_or, Nat.testBit_two_pow]
    constructor
    · rintro (h1 | ⟨y, hy, e⟩)
      · simp only [Bool.or_eq_true, decide_eq_true_eq] at h1
        rcases h1 with h1 | h1
        · exact .inl h1
        · exact .inr ⟨x, List.mem_cons_self, h1⟩
      · exact .inr ⟨y, List.mem_cons_of_mem _ hy, e⟩
    · rintro (h1 | ⟨y, hy, e⟩)
      · left; simp [h1]
      · rcases List.mem_cons.1 hy with rfl | hy
        · left; simp [e]
        · exact .inr ⟨y, hy, e⟩
theorem hasI_nat {nx q : Int} {h : Nat} (hh : h < 4611686018427387904) : hasI nx (h : Int) q = (decide (nx < q) && h.testBit (bitAt nx q)) := by
  unfold hasI
  congr 1
  have e1 : ((h : Int) / 2 ^ ((q - nx).toNat - 1)) = ((h / 2 ^ bitAt nx q : Nat) : Int) := by
    unfold bitAt; simp
  have e2 : bits .and .i64 ((h / 2 ^ bitAt nx q : Nat) : Int) 1 = ((h / 2 ^ bitAt nx q &&& 1 : Nat) : Int) := i64_and_nat _ 1 (Nat.lt_of_le_of_lt (Nat.div_le_self _ _) hh) (by omega)
  rw [e1, e2, Bool.eq_iff_iff, decide_eq_true_eq]
  rw [Nat.testBit_eq_decide_div_mod_eq, decide_eq_true_eq, Nat.and_one_is_mod]
  omega
theorem hasI_knows {nx q : Int} {l : List Fr} (hx : ∀ x ∈ l, nx < x.q ∧ x.q ≤ nx + 60) : hasI nx (havI nx l) q = true ↔ ∃ x ∈ l, x.q = q := by
  rw [havI_eq (fun x h => (hx x h).2), hasI_nat (havN_lt (by omega) (fun x h => (hx x h).2)), Bool.and_eq_true, decide_eq_true_eq, havN_bit]
  constructor
  · rintro ⟨h1, h2 | ⟨x, h2, e⟩⟩
    · simp at h2
    · refine ⟨x, h2, ?_⟩
      have := (hx x h2).1
      unfold bitAt at e; omega
  · rintro ⟨x, h1, rfl⟩
    exact ⟨(hx x h1).1, .inr ⟨x, h1, rfl⟩⟩
theorem misI_mem {nx ha f : Int} : ∀ {k : Nat} {q : Int}, q ∈ misI nx ha f k ↔ f ≤ q ∧ q < f + k ∧ hasI nx ha q = false := by
  intro k
  induction k with
  | zero => intro q; simp [misI]; omega
  | succ k ih =>
    intro q
    unfold misI
    rw [List.mem_append, ih]
    cases hc : hasI nx ha (f + (k : Int))
    · simp only [Bool.false_eq_true, if_false, List.mem_singleton]
      constructor
      · rintro (⟨h1, h2, h3⟩ | rfl)
        · exact ⟨h1, by push_cast; omega, h3⟩
        · exact ⟨by omega, by push_cast; omega, hc⟩
      · rintro ⟨h1, h2, h3⟩
        push_cast at h2
        by_cases h4 : q < f + k
        · exact .inl ⟨h1, h4, h3⟩
        · exact .inr (by omega)
    · simp only [if_true, List.not_mem_nil, or_false]
      constructor
      · rintro ⟨h1, h2, h3⟩
        exact ⟨h1, by push_cast; omega, h3⟩
      · rintro ⟨h1, h2, h3⟩
        push_cast at h2
        refine ⟨h1, ?_, h3⟩
        by_cases h4 : q < f + k
        · exact h4
        · have : q = f + k := by omega
          rw [this, hc] at h3; cases h3
end Go.Proofs.YthoikljmokkchaaDoor
