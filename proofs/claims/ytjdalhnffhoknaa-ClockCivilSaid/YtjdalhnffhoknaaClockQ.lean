/- The plain laws of leap tables, and the walks of the reference's Civil and Ticks. -/
import Derived.Test.YtjdalhnffhoknaaClockP
namespace Go.Proofs.Ytjdalhnffhoknaa
open Go.RowKit

theorem tbFrom_get (l : List Int) : ∀ n j k : Nat, k < n → (tbFrom l j n).getD k ⟨0, 0⟩ = tbEnt l (j + k)
  | 0, _, _, h => by omega
  | n + 1, j, 0, _ => by simp [tbFrom]
  | n + 1, j, k + 1, h => by
    rw [tbFrom, List.getD_cons_succ, tbFrom_get l n (j + 1) k (by omega)]
    congr 1; omega
theorem tbAt_lt (l : List Int) (j : Nat) : ∀ d : Nat, tbAt l j < tbAt l (j + d + 1)
  | 0 => by
    have h4 := around_b (l.getD (2 * j) 0) 1000 (by omega)
    show tbAt l j < tbAt l j + 1 + around (l.getD (2 * j) 0) 1000
    omega
  | d + 1 => by
    have h1 := tbAt_lt l j d
    have h4 := around_b (l.getD (2 * (j + d + 1)) 0) 1000 (by omega)
    have h5 : tbAt l (j + (d + 1) + 1) = tbAt l (j + d + 1) + 1 + around (l.getD (2 * (j + d + 1)) 0) 1000 := rfl
    omega
theorem tabOf_inc (l : List Int) : inc (tabOf l) := by
  intro j k h1 h2
  unfold tabOf at *
  rw [tbFrom_len] at h2
  rw [tbFrom_get l _ 0 j (by omega), tbFrom_get l _ 0 k h2]
  have := tbAt_lt l (0 + j + 1) (k - j - 1)
  rw [show 0 + j + 1 + (k - j - 1) + 1 = 0 + k + 1 by omega] at this
  exact this
theorem tabOf_bad (l : List Int) : ∀ k, k < (tabOf l).length → ¬ ((tabOf l).getD k ⟨0, 0⟩).bad := by
  intro k h2
  unfold tabOf at *
  rw [tbFrom_len] at h2
  rw [tbFrom_get l _ 0 k h2]
  exact (tbEnt_ok l (0 + k) (by omega)).1
theorem tabOf_offs (l : List Int) : offs (tabOf l) := by
  intro x hx
  obtain ⟨k, hk, rfl⟩ := List.getElem_of_mem hx
  have h := tabOf_bad l k hk
  simp only [List.getD, List.getElem?_eq_getElem hk, Option.getD_some] at h
  unfold Lp.bad at h
  omega
/-- all ticks of the entries -/
def ats (l : List Lp) : Prop := ∀ k, k < l.length → 0 ≤ (l.getD k ⟨0, 0⟩).at_ ∧ (l.getD k ⟨0, 0⟩).at_ ≤ 1000000
theorem tabOf_ats (l : List Int) : ats (tabOf l) := fun k hk => by have := tabOf_bad l k hk; unfold Lp.bad at this; omega
theorem ah_spec : ∀ (l : List Lp) (t : Int), inc l → (∀ k, k + 1 = ah l t → past l t k = false) ∧ (ah l t < l.length → past l t (ah l t) = true)
  | [], t, _ => ⟨fun k hk => by simp [ah] at hk, fun h => by simp [ah] at h⟩
  | x :: l, t, hi => by
    obtain ⟨h1, h2⟩ := ah_spec l t (inc_tail hi)
    by_cases hx : x.at_ ≤ t
    · have e : ah (x :: l) t = ah l t + 1 := by unfold ah; simp [List.filter_cons, hx]
      rw [e]
      refine ⟨fun k hk => ?_, fun h => ?_⟩
      · obtain rfl : k = ah l t := by omega
        cases hq : ah l t with
        | zero => unfold past; rw [List.getD_cons_zero]; exact decide_eq_false (by omega)
        | succ m =>
          have := h1 m (by omega)
          unfold past at this ⊢
          rw [List.getD_cons_succ]; exact this
      · have := h2 (by simpa using h)
        unfold past at this ⊢
        rw [List.getD_cons_succ]; exact this
    · have e : ah (x :: l) t = 0 := ah_none (fun k hk => by
        cases k with
        | zero => rw [List.getD_cons_zero]; omega
        | succ k =>
          have := hi 0 (k + 1) (by omega) hk
          rw [List.getD_cons_zero] at this; omega)
      rw [e]
      exact ⟨fun k hk => by omega, fun _ => by unfold past; rw [List.getD_cons_zero]; exact decide_eq_true (by omega)⟩
theorem ah_mono (l : List Lp) {x y : Int} (h : x ≤ y) : ah l x ≤ ah l y := by
  unfold ah
  induction l with
  | nil => simp
  | cons z l ih =>
    simp only [List.filter_cons]
    by_cases h1 : z.at_ ≤ x
    · have h2 : z.at_ ≤ y := by omega
      simp [h1, h2]; exact ih
    · by_cases h2 : z.at_ ≤ y
      · simp [h1, h2]; omega
      · simp [h1, h2]; exact ih
/-- the reference's bounds of an entry -/
def rfrom (l : List Lp) (i : Nat) : Int := if i = 0 then 0 else (l.getD (i - 1) ⟨0, 0⟩).at_
def runtil (l : List Lp) (i : Nat) : Int := if i < l.length then (l.getD i ⟨0, 0⟩).at_ else 1000001
theorem rtk_iff {l : List Lp} (hi : inc l) (ha : ats l) {i : Nat} (hl : i ≤ l.length) (t : Int) : (0 ≤ t ∧ t ≤ 1000000 ∧ ah l t = i) ↔ (rfrom l i ≤ t ∧ t < runtil l i) := by
  constructor
  · rintro ⟨h0, h1, rfl⟩
    obtain ⟨s1, s2⟩ := ah_spec l t hi
    unfold rfrom runtil
    refine ⟨?_, ?_⟩
    · split
      · exact h0
      · have := of_decide_eq_false (s1 (ah l t - 1) (by omega)); omega
    · split
      · rename_i h; exact of_decide_eq_true (s2 h)
      · omega
  · rintro ⟨h0, h1⟩
    unfold rfrom at h0
    unfold runtil at h1
    have b0 : 0 ≤ t := by
      split at h0
      · exact h0
      · have := (ha (i - 1) (by omega)).1; omega
    have b1 : t ≤ 1000000 := by
      split at h1
      · rename_i h; have := (ha i h).2; omega
      · omega
    refine ⟨b0, b1, ah_eq l t i hi hl (fun k hk => ?_) (fun h => ?_)⟩
    · subst hk
      rw [if_neg (by omega)] at h0
      exact decide_eq_false (by rw [Nat.add_sub_cancel] at h0; omega)
    · rw [if_pos h] at h1; exact decide_eq_true h1
theorem civ_mem {l : List Lp} (ho : offs l) {n : Int} (h0 : 0 ≤ n) (h1 : n ≤ 1000000) : n ∈ tks l (civ l n) := by
  have hle := ah_le l n
  have hb : -100 ≤ civ l n ∧ civ l n ≤ 1000100 := by
    unfold civ; split
    · omega
    · rename_i hz
      have hk : ah l n - 1 < l.length := by omega
      have := off_at ho hk
      simp only [List.getD, List.getElem?_eq_getElem hk, Option.getD_some]; omega
  have ht : tk l (civ l n) (ah l n) = n := by
    unfold tk civ
    by_cases hz : ah l n = 0
    · simp [hz]
    · simp [hz]
  unfold tks tksTo
  rw [if_neg (by omega)]
  refine List.mem_map.2 ⟨ah l n, List.mem_filter.2 ⟨List.mem_range.2 (by omega), ?_⟩, ht⟩
  unfold tkOk; rw [ht]; exact decide_eq_true ⟨h0, h1, rfl⟩
theorem tks_mem {l : List Lp} {c x : Int} (h : x ∈ tks l c) : civ l x = c ∧ 0 ≤ x ∧ x ≤ 1000000 := by
  unfold tks at h
  split at h
  · simp at h
  · unfold tksTo at h
    obtain ⟨i, hi, rfl⟩ := List.mem_map.1 h
    obtain ⟨h1, h2⟩ := List.mem_filter.1 hi
    obtain ⟨a, b, e⟩ := of_decide_eq_true h2
    refine ⟨?_, a, b⟩
    unfold civ
    rw [e]
    unfold tk
    by_cases hz : i = 0
    · simp [hz]
    · simp [hz]
theorem tksTo_sorted (l : List Lp) (c : Int) : ∀ n : Nat, (tksTo l c n).Pairwise (· < ·) ∧ ∀ x ∈ tksTo l c n, ah l x < n
  | 0 => ⟨by simp [tksTo], by simp [tksTo]⟩
  | n + 1 => by
    obtain ⟨h1, h2⟩ := tksTo_sorted l c n
    by_cases h : 0 ≤ tk l c n ∧ tk l c n ≤ 1000000 ∧ ah l (tk l c n) = n
    · rw [tksTo_yes h]
      refine ⟨List.pairwise_append.2 ⟨h1, by simp, fun x hx y hy => ?_⟩, fun x hx => ?_⟩
      · simp at hy; subst hy
        have := h2 x hx
        rcases Int.lt_or_le x (tk l c n) with h3 | h3
        · exact h3
        · have := ah_mono l h3; omega
      · rcases List.mem_append.1 hx with hx | hx
        · have := h2 x hx; omega
        · simp at hx; subst hx; omega
    · rw [tksTo_no h]
      exact ⟨h1, fun x hx => by have := h2 x hx; omega⟩
theorem tks_sorted (l : List Lp) (c : Int) : (tks l c).Pairwise (· < ·) := by
  unfold tks; split
  · simp
  · exact (tksTo_sorted l c _).1
/-- the civil time after k entries -/
def rciv (l : List Lp) (t : Int) (k : Nat) : Int := if ah (l.take k) t = 0 then t else t + ((l.take k).getD (ah (l.take k) t - 1) ⟨0, 0⟩).off
theorem inc_take {l : List Lp} (h : inc l) (k : Nat) : inc (l.take k) := fun i j h1 h2 => by
  have h3 : j < k ∧ j < l.length := by rw [List.length_take] at h2; omega
  have := h i j h1 h3.2
  simpa [List.getD, List.getElem?_take, h3.1, show i < k by omega] using this
theorem rciv_yes {l : List Lp} (hi : inc l) {t : Int} {k : Nat} (hk : k < l.length) (h : l[k].at_ ≤ t) : rciv l t (k + 1) = t + l[k].off := by
  have e : l.take (k + 1) = l.take k ++ [l[k]] := List.take_succ_eq_append_getElem hk
  have hall : ah (l.take (k + 1)) t = k + 1 := by
    unfold ah
    rw [List.filter_eq_self.2]
    · rw [List.length_take]; omega
    · intro x hx
      obtain ⟨j, hj, rfl⟩ := List.getElem_of_mem hx
      have hj2 : j < k + 1 ∧ j < l.length := by rw [List.length_take] at hj; omega
      rw [List.getElem_take]
      rcases Nat.lt_or_ge j k with h3 | h3
      · have := hi j k h3 hk
        simp only [List.getD, List.getElem?_eq_getElem hk, List.getElem?_eq_getElem hj2.2, Option.getD_some] at this
        exact decide_eq_true (by omega)
      · obtain rfl : j = k := by omega
        exact decide_eq_true h
  unfold rciv
  rw [hall, if_neg (by omega), Nat.add_sub_cancel]
  simp [List.getD, List.getElem?_take, hk]
theorem rciv_no {l : List Lp} {t : Int} {k : Nat} (hk : k < l.length) (h : ¬ l[k].at_ ≤ t) : rciv l t (k + 1) = rciv l t k := by
  have e : l.take (k + 1) = l.take k ++ [l[k]] := List.take_succ_eq_append_getElem hk
  have ha : ah (l.take (k + 1)) t = ah (l.take k) t := by unfold ah; rw [e, List.filter_append]; simp [h]
  unfold rciv
  rw [ha]
  by_cases hz : ah (l.take k) t = 0
  · simp [hz]
  · rw [if_neg hz, if_neg hz]
    have := ah_le (l.take k) t
    rw [List.length_take] at this
    simp only [List.getD, List.getElem?_take]
    rw [if_pos (by omega), if_pos (by omega)]
theorem rciv_all (l : List Lp) (t : Int) : rciv l t l.length = civ l t := by unfold rciv civ; rw [List.take_length]
set_option maxRecDepth 100000 in set_option maxHeartbeats 1000000 in
theorem RCivil_any (v : Value) (l : List Lp) (t : Int) (w : World) (K : Nat → Prop) (ht : Tab K w v l) (hi : inc l) (ho : offs l) (hn : l.length ≤ 1000000) (h0 : -1000000000 ≤ t) (h1 : t ≤ 1000000000) :
    Calls Try.prog 31 #[v, .int .i64 t] w fun e w' => e = .returned (.int .i64 (civ l t)) ∧ w = w' := by
  have HT : Hd (Tab (fun b => b < w.heap.size) w v l) := hid (ht.mono (fun b h _ => h))
  have HI := hid hi; have HO := hid ho
  have HE := hid (rciv_all l t)
  obtain ⟨a, cap, rfl, hl, hc, hx0⟩ := ht.form
  unfold maxLen at hc
  clear ht hx0 hi ho
  generalize hll : l.length = n at *
  have HL := hid hll; clear hll
  go_enter Try.func31, Try.ntmps31
  go_wp2_with fail
  go_loop [5, 6] (fun s i => ∃ k : Nat, k ≤ n ∧ i = .int .i64 k ∧ s = .int .i64 (rciv l t k)) (fun _ i => n - (intOf i).toNat)
  case atStart => exact ⟨0, by omega, rfl, rfl⟩
  case round =>
    obtain ⟨k, hk, rfl, rfl⟩ := hrel
    by_cases hlt : k < n
    · have hkn : k < l.length := by rw [HL.out]; exact hlt
      obtain ⟨a', cap', hva, q9, q8, hx⟩ := HT.out.form
      rw [HL.out] at hva
      injection hva with hva1 hva2 hva3
      obtain ⟨b, o, hb, q7, q6, hx2⟩ := hx (by omega)
      subst hb
      subst hva1
      obtain ⟨c0, c1⟩ := hx2 k hkn
      obtain ⟨o1, o2⟩ := off_at HO.out hkn
      have HY : Hd ((l[k]).at_ ≤ t → rciv l t (k + 1) = t + (l[k]).off) := hid (rciv_yes HI.out hkn)
      have HN : Hd (¬ (l[k]).at_ ≤ t → rciv l t (k + 1) = rciv l t k) := hid (rciv_no hkn)
      clear hx hx2 hva2 hva3 q9 q8 q7 q6
      generalize l[k] = x at *
      have hk1 : (k : Int) < n := by omega
      have hk2 : (0 : Int) ≤ (k : Int) := by omega
      by_cases ha : x.at_ ≤ t
      · have HS := hid (HY.out ha)
        go_wp2
        go_round
        case rel => exact ⟨k + 1, by omega, by go_num, by rw [HS.out]⟩
        case measure => simp [intOf]; omega
      · have HS := hid (HN.out ha)
        go_wp2
        go_round
        case rel => exact ⟨k + 1, by omega, by go_num, by rw [HS.out]⟩
        case measure => simp [intOf]; omega
    · have hkn : k = n := by omega
      have HF : Hd (rciv l t k = civ l t) := hid (by rw [hkn]; exact HE.out)
      clear hkn
      go_wp2
      go_ret
      exact ⟨ret_int HF.out, rfl⟩
set_option maxRecDepth 100000 in set_option maxHeartbeats 400000 in
theorem Has_any (K : Nat → Prop) (v : Value) (l : List Int) (n : Int) (w : World) (hv : Sl K w v (i64s l)) (hm : l.length ≤ 1000000000) (hin : n ∈ l) :
    Calls Try.prog 34 #[v, .int .i64 n] w fun e w' => e = .returned (.bool true) ∧ w = w' := by
  obtain ⟨a, cap, rfl, q1, q2, q3⟩ := hv.ints
  unfold maxLen at q2
  have HV := hid q3; have HIN := hid hin
  clear hv q3 hin
  generalize hll : l.length = m at *
  have HLL := hid hll; clear hll
  go_enter Try.func34, Try.ntmps34
  go_wp2_with fail
  go_loop [5] (fun i => ∃ k : Nat, k ≤ m ∧ i = .int .i64 k ∧ Hd (n ∈ l.drop k)) (fun i => m - (intOf i).toNat)
  case atStart => exact ⟨0, by omega, rfl, HIN⟩
  case round =>
    obtain ⟨k, hk, rfl, hd⟩ := hrel
    have hkn : k < l.length := by
      rcases Nat.lt_or_ge k l.length with h | h
      · exact h
      · have := hd.out; rw [List.drop_eq_nil_of_le h] at this; simp at this
    have hlt : k < m := by rw [HLL.out] at hkn; exact hkn
    obtain ⟨b, o, rfl, _, _, hc⟩ := HV.out (by omega)
    have c0 := hc k hlt
    have HD : Hd (n = l.getD k 0 ∨ n ∈ l.drop (k + 1)) := hid (by
      have := hd.out
      rw [List.drop_eq_getElem_cons hkn] at this
      rcases List.mem_cons.1 this with h | h
      · left; rw [h]; simp [List.getD, hkn]
      · exact .inr h)
    clear hc hkn
    generalize l.getD k 0 = x at *
    have hk1 : (k : Int) < m := by omega
    have hk2 : (0 : Int) ≤ (k : Int) := by omega
    by_cases he : x = n
    · have t0 : (x == n) = true := by simp; exact he
      clear he
      go_wp2
      go_ret
      exact ⟨rfl, rfl⟩
    · have t0 : (x == n) = false := by simp; exact he
      have HN : Hd (n ∈ l.drop (k + 1)) := hid (by rcases HD.out with h | h; exact absurd h.symm he; exact h)
      clear he
      go_wp2
      go_round
      case rel => exact ⟨k + 1, by omega, by go_num, HN⟩
      case measure => simp [intOf]; omega
end Go.Proofs.Ytjdalhnffhoknaa
