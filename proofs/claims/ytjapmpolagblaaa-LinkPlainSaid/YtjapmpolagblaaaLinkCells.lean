/- Cells of a list of flights, of arrivals, of windows. -/
import Derived.Test.YtjapmpolagblaaaLinkMath
namespace Go.Proofs.Ytjapmpolagblaaa
open Go.RowKit
theorem sl_slice {K : Nat → Prop} {w : World} {v : Value} {l : List Nat} (h : Sl K w v (u8s l)) : ∃ ad cd, v = .slice ad l.length cd ∧ Sl K w (.slice ad l.length cd) (u8s l) := by
  obtain ⟨a, c, e, _⟩ := h.bytes
  subst e
  exact ⟨a, c, rfl, h⟩
theorem fls_cells {K : Nat → Prop} {w : World} {a : Option Addr} {n c : Nat} {l : List Flt} (h : Fls K w (.slice a n c) l) (hl : 0 < l.length) :
    ∃ b o, a = some ⟨b, o, none⟩ ∧ K b ∧ b < w.heap.size ∧ ∀ k x, l[k]? = some x → w.cell? ⟨b, o + k * 5, none⟩ = some (.int .i64 x.t) ∧ w.cell? ⟨b, o + k * 5 + 1, none⟩ = some (.int .i64 x.n) ∧ w.cell? ⟨b, o + k * 5 + 2, none⟩ = some (.int .i64 x.f) ∧ w.cell? ⟨b, o + k * 5 + 3, none⟩ = some (.int .i64 x.g) ∧
      ∃ ad cd, w.cell? ⟨b, o + k * 5 + 4, none⟩ = some (.slice ad x.d.length cd) ∧ Sl K w (.slice ad x.d.length cd) (u8s x.d) := by
  obtain ⟨xs, hrow, hc⟩ := h
  obtain ⟨a', c', e, _, _, hel⟩ := hrow.form
  injection e with e1 e2 e3
  subst e1
  obtain ⟨b, o, ea, hK, hb, hcell⟩ := hel hl
  refine ⟨b, o, ea, hK, hb, fun k x hx => ?_⟩
  have hk : k < l.length := (List.getElem?_eq_some_iff.1 hx).1
  obtain ⟨t0, t1, t2, t3, t4⟩ := hc k x hx
  have key : ∀ j, j < 5 → w.cell? ⟨b, o + k * 5 + j, none⟩ = some (xs.getD (k * 5 + j) undef) := fun j hj => by rw [Nat.add_assoc]; exact hcell (k * 5 + j) (by omega)
  obtain ⟨ad, cd, e4, h4⟩ := sl_slice t4
  exact ⟨(key 0 (by omega)).trans (congrArg some t0), (key 1 (by omega)).trans (congrArg some t1), (key 2 (by omega)).trans (congrArg some t2), (key 3 (by omega)).trans (congrArg some t3), ad, cd, (key 4 (by omega)).trans (congrArg some e4), h4⟩
theorem ars_cells {K : Nat → Prop} {w : World} {a : Option Addr} {n c : Nat} {l : List Flt} (h : Ars K w (.slice a n c) l) (hl : 0 < l.length) :
    ∃ b o, a = some ⟨b, o, none⟩ ∧ K b ∧ b < w.heap.size ∧ ∀ k x, l[k]? = some x → w.cell? ⟨b, o + k * 3, none⟩ = some (.int .i64 x.f) ∧ w.cell? ⟨b, o + k * 3 + 1, none⟩ = some (.int .i64 x.g) ∧
      ∃ ad cd, w.cell? ⟨b, o + k * 3 + 2, none⟩ = some (.slice ad x.d.length cd) ∧ Sl K w (.slice ad x.d.length cd) (u8s x.d) := by
  obtain ⟨xs, hrow, hc⟩ := h
  obtain ⟨a', c', e, _, _, hel⟩ := hrow.form
  injection e with e1 e2 e3
  subst e1
  obtain ⟨b, o, ea, hK, hb, hcell⟩ := hel hl
  refine ⟨b, o, ea, hK, hb, fun k x hx => ?_⟩
  have hk : k < l.length := (List.getElem?_eq_some_iff.1 hx).1
  obtain ⟨t0, t1, t2⟩ := hc k x hx
  have key : ∀ j, j < 3 → w.cell? ⟨b, o + k * 3 + j, none⟩ = some (xs.getD (k * 3 + j) undef) := fun j hj => by rw [Nat.add_assoc]; exact hcell (k * 3 + j) (by omega)
  obtain ⟨ad, cd, e4, h4⟩ := sl_slice t2
  exact ⟨(key 0 (by omega)).trans (congrArg some t0), (key 1 (by omega)).trans (congrArg some t1), ad, cd, (key 2 (by omega)).trans (congrArg some e4), h4⟩
theorem fls_form {K : Nat → Prop} {w : World} {v : Value} {l : List Flt} (h : Fls K w v l) : ∃ a c, v = .slice a l.length c ∧ l.length ≤ c ∧ c ≤ maxLen := by
  obtain ⟨xs, hrow, _⟩ := h
  obtain ⟨a, c, e, h1, h2, _⟩ := hrow.form
  exact ⟨a, c, e, h1, h2⟩
theorem ars_form {K : Nat → Prop} {w : World} {v : Value} {l : List Flt} (h : Ars K w v l) : ∃ a c, v = .slice a l.length c ∧ l.length ≤ c ∧ c ≤ maxLen := by
  obtain ⟨xs, hrow, _⟩ := h
  obtain ⟨a, c, e, h1, h2, _⟩ := hrow.form
  exact ⟨a, c, e, h1, h2⟩
end Go.Proofs.Ytjapmpolagblaaa
