/- A list of gaps that came in, opened. -/
import Derived.Test.YtgeicbjlichdgaaDoorFileC
import Derived.Deep.Slices
import Derived.Test.YtgeicbjlichdgaaDoorOpen
import Derived.Lib.SmallJoins
import Derived.ChangeSame
namespace Go.Proofs.YtgeicbjlichdgaaDoor
open Go.Joins Go.ChangeShapes Go.WideShapes Go.RowKit Go.Deep

theorem list_of {α : Type} {P : Nat → α → Prop} : ∀ n : Nat, (∀ i, i < n → ∃ x, P i x) → ∃ l : List α, l.length = n ∧ ∀ i (h : i < l.length), P i l[i]
  | 0, _ => ⟨[], rfl, fun i h => by simp at h⟩
  | n + 1, h => by
    obtain ⟨l, h1, h2⟩ := list_of n (fun i hi => h i (by omega))
    obtain ⟨x, hx⟩ := h n (by omega)
    refine ⟨l ++ [x], by simp [h1], fun i hi => ?_⟩
    rcases Nat.lt_or_ge i l.length with h3 | h3
    · rw [List.getElem_append_left h3]; exact h2 i h3
    · have : i = l.length := by simp at hi; omega
      subst this
      simp only [List.getElem_concat_length]
      rw [h1]; exact hx
theorem gpx_getD (l : List (Int × Int)) (j : Nat) (h : j < l.length * 2) : (gpX l).getD j undef = if j % 2 = 0 then .int .i64 (l[j / 2]'(by omega)).1 else .int .i64 (l[j / 2]'(by omega)).2 := by
  have e := flat_get gpC 2 (fun _ => rfl) l (j / 2) (l[j / 2]'(by omega)) (j % 2) (List.getElem?_eq_getElem _) (by omega)
  have e2 : j / 2 * 2 + j % 2 = j := by omega
  rw [e2] at e
  rw [List.getD, show gpX l = l.flatMap gpC from rfl, e]
  split
  · rename_i h1; rw [h1]; rfl
  · rename_i h1; rw [show j % 2 = 1 by omega]; rfl
section
variable {H : Type} {enc : TypeId × Value → H} {w : World} {base : Nat} {spare : Nat → Bool} {held : Bool}
set_option maxRecDepth 100000 in
theorem open_gaps {v : Value} {d : DataW H} {ps : List MemPlace} (hv : ∃ a len cap, v = .slice a len cap) (h : DataW.Trod enc Tryd.prog w base spare held 32 v d ps) :
    ∃ l : List (Int × Int), Gps (fun b => b < w.heap.size) w v l := by
  obtain ⟨a0, len0, cap0, rfl⟩ := hv
  obtain ⟨fuel, hf⟩ := h
  have h2 : Tryd.prog.cellsOf 52 = 2 := by kernel_rfl
  have c1 : Tryd.prog.cellsOf 3 = 1 := by kernel_rfl
  rcases open_slice Tryd.underlying32 hf with h0 | ⟨a, len, cap, m, n, D, Pl, hcs, hb, hl, hm, hmm, hx, hi⟩
  · have h0 := h0.1
    simp [Value.cells] at h0
    obtain ⟨rfl, rfl, rfl⟩ := h0
    exact ⟨[], rfl, .inl ⟨rfl, rfl⟩⟩
  · simp [Value.cells] at hcs
    obtain ⟨rfl, rfl, rfl⟩ := hcs
    have hlm : len0 ≤ m := by rw [hmm]; split <;> omega
    have key : ∀ i, i < len0 → ∃ x : Int × Int, w.cell? (a.add (i * 2)) = some (.int .i64 x.1) ∧ w.cell? (a.add (i * 2 + 1)) = some (.int .i64 x.2) := by
      intro i hin
      obtain ⟨cs', hc, ht'⟩ := hi i (by omega)
      rw [h2] at hc
      obtain ⟨ys, n', hn', hy, hlen, hyl, hfl⟩ := DataW.trod_struct Tryd.underlying52 ht'
      obtain ⟨_, hcl, hat⟩ := World.cells?_some hc
      obtain ⟨a0, a1, rfl⟩ : ∃ a0 a1, cs' = [a0, a1] := by
        match cs', hcl with
        | [a0, a1], _ => exact ⟨a0, a1, rfl⟩
      have hyl : ys.length = 2 := hyl
      obtain ⟨y0, y1, rfl⟩ : ∃ y0 y1, ys = [y0, y1] := by
        match ys, hyl with
        | [y0, y1], _ => exact ⟨y0, y1, rfl⟩
      have f0 : DataW.trod enc Tryd.prog w base spare held n' 3 [a0] = some y0 := by
        have h : DataW.trod enc Tryd.prog w base spare held n' 3 (List.take (Tryd.prog.cellsOf 3) [a0, a1]) = some y0 := hfl 0 _ rfl
        rw [c1] at h
        exact h
      have f1 : DataW.trod enc Tryd.prog w base spare held n' 3 [a1] = some y1 := by
        have h : DataW.trod enc Tryd.prog w base spare held n' 3 (List.take (Tryd.prog.cellsOf 3) [a1]) = some y1 := hfl 1 _ rfl
        rw [c1] at h
        exact h
      obtain ⟨z0, e0, _, _⟩ := DataW.trod_int Tryd.underlying3 f0
      obtain ⟨z1, e1, _, _⟩ := DataW.trod_int Tryd.underlying3 f1
      simp at e0 e1
      subst e0 e1
      have g0 := hat 0 (by omega)
      have g1 := hat 1 (by omega)
      rw [Go.Deep.add_add] at g0 g1
      exact ⟨⟨z0, z1⟩, by simpa using g0, by simpa using g1⟩
    obtain ⟨l, hll, hP⟩ := list_of len0 key
    refine ⟨l, by rw [gpX_len], .inr ⟨a, cap0, by rw [hll], by omega, hm, fun hp => ?_⟩⟩
    obtain ⟨b, o, sp⟩ := a
    have hp0 := (hP 0 hp).1
    have hsp : sp = none := by simpa [Addr.add] using World.cell?_spot hp0
    subst hsp
    have h2 : w.cell? ⟨b, o, none⟩ = some (.int .i64 l[0].1) := by simpa [Addr.add] using hp0
    refine ⟨b, o, rfl, cell_lt h2, cell_lt h2, fun j hj => ?_⟩
    rw [gpx_getD l j hj]
    have hq := hP (j / 2) (by omega)
    have ad : ∀ k, (⟨b, o, none⟩ : Addr).add k = ⟨b, o + k, none⟩ := fun k => by unfold Addr.add; split <;> simp_all
    rw [ad, ad] at hq
    split
    · rename_i h1
      rw [← hq.1]; congr 2; omega
    · rename_i h1
      rw [← hq.2]; congr 2; omega
end
end Go.Proofs.YtgeicbjlichdgaaDoor
