/- File: plain laws of one Put. -/
import Derived.Test.YtgeicbjlichdgaaDoorFileN
namespace Go.Proofs.YtgeicbjlichdgaaDoor
open Go.RowKit
theorem putE_zero {M : Pm} {y : Seg} (h : putE M y = 0) : y.f = M.id ∧ Valid y ∧ ¬ (M.kn = true ∧ (y.t ≠ M.dt.length ∨ y.s ≠ M.sm)) ∧ anyC (initM M y) y = false := by
  unfold putE at h
  by_cases h1 : y.f ≠ M.id
  · rw [if_pos h1] at h; omega
  · rw [if_neg h1] at h
    by_cases h2 : ¬ Valid y
    · rw [if_pos h2] at h; omega
    · rw [if_neg h2] at h
      by_cases h3 : M.kn = true ∧ (y.t ≠ M.dt.length ∨ y.s ≠ M.sm)
      · rw [if_pos h3] at h; omega
      · rw [if_neg h3] at h
        cases h4 : anyC (initM M y) y with
        | true => rw [h4, if_pos rfl] at h; omega
        | false => exact ⟨Decidable.of_not_not h1, Decidable.of_not_not h2, h3, rfl⟩
theorem initM_kn (M : Pm) (y : Seg) : (initM M y).kn = true := by
  unfold initM; cases h : M.kn <;> simp [h]
theorem initM_id (M : Pm) (y : Seg) : (initM M y).id = M.id := by
  unfold initM; cases h : M.kn <;> simp
theorem initM_sm {M : Pm} {y : Seg} (h : ¬ (M.kn = true ∧ (y.t ≠ M.dt.length ∨ y.s ≠ M.sm))) : (initM M y).sm = y.s := by
  unfold initM
  cases hk : M.kn with
  | true =>
    show M.sm = y.s
    by_cases e : y.s = M.sm
    · exact e.symm
    · exact absurd ⟨hk, .inr e⟩ h
  | false => rfl
theorem initM_of {M : Pm} (y : Seg) (h : M.kn = true) : initM M y = M := by unfold initM; rw [if_pos h]
theorem mem_ovr {α : Type} {l d : List α} {o : Nat} {P : α → Prop} (hl : ∀ c ∈ l, P c) (hd : ∀ c ∈ d, P c) : ∀ c ∈ ovr l o d, P c := by
  unfold ovr
  intro c hc
  rcases List.mem_append.1 hc with hc | hc
  · rcases List.mem_append.1 hc with hc | hc
    · exact hl c (List.mem_of_mem_take hc)
    · exact hd c hc
  · exact hl c (List.mem_of_mem_drop hc)
theorem putM_ok {M : Pm} {y : Seg} (h : M.ok) (hs : y.s < 4294967296) (hb : ∀ c ∈ y.d, c < 256) : (putM M y).ok := by
  unfold putM
  by_cases h0 : putE M y = 0
  · rw [if_pos h0]
    obtain ⟨h1, h2, h3, h4⟩ := putE_zero h0
    have ho := initM_ok h h2 hs
    have hl := initM_len h2 h3
    obtain ⟨v1, v2, v3, v4, v5⟩ := h2
    have e1 := ovr_length (l := (initM M y).dt) (o := y.o.toNat) (d := y.d) (by omega)
    have e2 := ovr_length (l := (initM M y).hv) (o := y.o.toNat) (d := List.replicate y.d.length true) (by rw [List.length_replicate, ho.len]; omega)
    refine ⟨?_, ?_, mem_ovr ho.b hb, ho.s, fun hk => ?_⟩
    · show (ovr _ _ _).length = (ovr _ _ _).length
      rw [e1, e2]; exact ho.len
    · show (ovr _ _ _).length ≤ _
      rw [e1]; exact ho.max
    · have := initM_kn M y
      have hk2 : (initM M y).kn = false := hk
      rw [this] at hk2; cases hk2
  · rw [if_neg h0]
    by_cases h8 : putE M y = 8
    · rw [if_pos h8]
      have h2 : Valid y := Classical.byContradiction fun hn => by
        unfold putE at h8
        by_cases h1 : y.f ≠ M.id
        · rw [if_pos h1] at h8; omega
        · rw [if_neg h1, if_pos hn] at h8; omega
      exact initM_ok h h2 hs
    · rw [if_neg h8]; exact h
theorem putM_same {M : Pm} {y : Seg} (h : M.ok) (h0 : putE M y ≠ 0) : putM M y = M := by
  unfold putM
  rw [if_neg h0]
  by_cases h8 : putE M y = 8
  · rw [if_pos h8]
    cases hk : M.kn with
    | true => exact initM_of y hk
    | false =>
      exfalso
      have ha : anyC (initM M y) y = false := by
        unfold anyC initM
        rw [if_neg (by rw [hk]; exact Bool.false_ne_true)]
        rw [List.any_eq_false]
        intro k _
        unfold confl
        show ¬ ((List.replicate y.t.toNat false).getD _ false && _) = true
        rw [show (List.replicate y.t.toNat false).getD (y.o.toNat + k) false = false by unfold List.getD; rw [List.getElem?_replicate]; split <;> rfl]
        exact Bool.false_ne_true
      unfold putE at h8
      split at h8
      · omega
      · split at h8
        · omega
        · split at h8
          · omega
          · rw [ha, if_neg Bool.false_ne_true] at h8; omega
  · rw [if_neg h8]
theorem putM_kn {M : Pm} {y : Seg} (h : putE M y = 0) : (putM M y).kn = true := by
  unfold putM; rw [if_pos h]; exact initM_kn M y
theorem put_again {M : Pm} {y : Seg} (h : M.ok) (hs : y.s < 4294967296) (h0 : putE M y = 0) : putE (putM M y) y = 0 := by
  obtain ⟨h1, h2, h3, h4⟩ := putE_zero h0
  have ho := initM_ok h h2 hs
  have hl := initM_len h2 h3
  have hsm := initM_sm h3
  have hkn := putM_kn h0
  have hv := h2
  obtain ⟨v1, v2, v3, v4, v5⟩ := hv
  have e1 := ovr_length (l := (initM M y).dt) (o := y.o.toNat) (d := y.d) (by omega)
  have ed : (putM M y).dt = ovr (initM M y).dt y.o.toNat y.d := by unfold putM; rw [if_pos h0]; rfl
  have es : (putM M y).sm = y.s := by unfold putM; rw [if_pos h0]; exact hsm
  have ei : (putM M y).id = M.id := by unfold putM; rw [if_pos h0]; exact initM_id M y
  generalize hN : putM M y = N at *
  unfold putE
  rw [if_neg (by rw [ei]; exact fun hh => hh h1), if_neg (fun hh => hh h2), if_neg (fun hh => by
    rcases hh.2 with hh | hh
    · apply hh; rw [ed, e1]; omega
    · exact hh es.symm), initM_of y hkn]
  rw [if_neg]
  unfold anyC
  rw [Bool.not_eq_true, List.any_eq_false]
  intro k hk
  unfold confl
  rw [ed, getD_ovr 0 (by omega)]
  have hk' : k < y.d.length := List.mem_range.1 hk
  rw [if_pos (by omega), show y.o.toNat + k - y.o.toNat = k by omega]
  simp
theorem put_kn {l : List Seg} {M : Pm} (hk : (l.foldl putM M).kn = true ↔ l ≠ []) : (l.foldl putM M).kn = decide (0 < l.length) := by
  cases l with
  | nil => simp at hk ⊢; exact hk
  | cons a l => rw [hk.2 (by simp)]; simp
end Go.Proofs.YtgeicbjlichdgaaDoor
