/- A slice of items that came in, opened. -/
import Derived.Test.YtlebocjcelbbpaaOpen
import Derived.Test.YtlebocjcelbbpaaItem
import Derived.Deep.Slices
namespace Go.Proofs.Ytlebocjcelbbpaa
open Go.ChangeShapes Go.WideShapes Go.ChangeAt Go.RowKit
section
variable {H : Type} {enc : TypeId × Value → H} {w : World} {base : Nat} {spare : Nat → Bool} {held : Bool}
theorem open_item {fuel : Nat} {cs : List Value} {d : DataW H × List MemPlace} (h : DataW.trod enc Try.prog w base spare held fuel 46 cs = some d) :
    ∃ x : It, cs.length = 6 ∧ ItCells (fun b => b < w.heap.size) w (fun j => cs.getD j undef) x ∧ x.ok ∧ x.wt ≤ 20 * Rows.uptoBulk d.1 := by
  have h6 : Try.prog.cellsOf 46 = 6 := by kernel_rfl
  have c3 : Try.prog.cellsOf 3 = 1 := by kernel_rfl
  have c25 : Try.prog.cellsOf 25 = 1 := by kernel_rfl
  have c22 : Try.prog.cellsOf 22 = 1 := by kernel_rfl
  have c44 : Try.prog.cellsOf 44 = 1 := by kernel_rfl
  have c5 : Try.prog.cellsOf 5 = 1 := by kernel_rfl
  obtain ⟨xs, n, rfl, rfl, hcl, hxl, hf⟩ := DataW.trod_struct Try.underlying46 h
  rw [h6] at hcl
  have hxl : xs.length = 6 := hxl
  obtain ⟨a0, a1, a2, a3, a4, a5, rfl⟩ : ∃ a0 a1 a2 a3 a4 a5, cs = [a0, a1, a2, a3, a4, a5] := by
    match cs, hcl with
    | [a0, a1, a2, a3, a4, a5], _ => exact ⟨a0, a1, a2, a3, a4, a5, rfl⟩
  obtain ⟨y0, y1, y2, y3, y4, y5, rfl⟩ : ∃ y0 y1 y2 y3 y4 y5, xs = [y0, y1, y2, y3, y4, y5] := by
    match xs, hxl with
    | [y0, y1, y2, y3, y4, y5], _ => exact ⟨y0, y1, y2, y3, y4, y5, rfl⟩
  have f0 : DataW.trod enc Try.prog w base spare held n 3 [a0] = some y0 := by
    have h : DataW.trod enc Try.prog w base spare held n 3 (List.take (Try.prog.cellsOf 3) [a0, a1, a2, a3, a4, a5]) = some y0 := hf 0 _ rfl
    rw [c3] at h
    exact h
  have f1 : DataW.trod enc Try.prog w base spare held n 25 [a1] = some y1 := by
    have h : DataW.trod enc Try.prog w base spare held n 25 (List.take (Try.prog.cellsOf 25) [a1, a2, a3, a4, a5]) = some y1 := hf 1 _ rfl
    rw [c25] at h
    exact h
  have f2 : DataW.trod enc Try.prog w base spare held n 3 [a2] = some y2 := by
    have h : DataW.trod enc Try.prog w base spare held n 3 (List.take (Try.prog.cellsOf 3) [a2, a3, a4, a5]) = some y2 := hf 2 _ rfl
    rw [c3] at h
    exact h
  have f3 : DataW.trod enc Try.prog w base spare held n 22 [a3] = some y3 := by
    have h : DataW.trod enc Try.prog w base spare held n 22 (List.take (Try.prog.cellsOf 22) [a3, a4, a5]) = some y3 := hf 3 _ rfl
    rw [c22] at h
    exact h
  have f4 : DataW.trod enc Try.prog w base spare held n 44 [a4] = some y4 := by
    have h : DataW.trod enc Try.prog w base spare held n 44 (List.take (Try.prog.cellsOf 44) [a4, a5]) = some y4 := hf 4 _ rfl
    rw [c44] at h
    exact h
  have f5 : DataW.trod enc Try.prog w base spare held n 3 [a5] = some y5 := by
    have h : DataW.trod enc Try.prog w base spare held n 3 (List.take (Try.prog.cellsOf 3) [a5]) = some y5 := hf 5 _ rfl
    rw [c3] at h
    exact h
  obtain ⟨k0, e0, g0, w0⟩ := DataW.trod_int Try.underlying3 f0
  obtain ⟨k1, e1, g1, w1⟩ := DataW.trod_int Try.underlying25 f1
  obtain ⟨k2, e2, g2, w2⟩ := DataW.trod_int Try.underlying3 f2
  obtain ⟨l3, s3, w3, d3⟩ := open_slice_c Try.underlying22 Try.underlying5 c5 f3
  obtain ⟨l4, s4, w4, d4⟩ := open_slice_c Try.underlying44 Try.underlying3 c3 f4
  obtain ⟨k5, e5, g5, w5⟩ := DataW.trod_int Try.underlying3 f5
  simp at e0 e1 e2 e5
  subst e0 e1 e2 e5
  obtain ⟨s3', w3'⟩ := u8_list s3 w3
  have hu := u64_of_wf w1
  refine ⟨⟨k0, k1.toNat, k2, l3.map Int.toNat, l4, k5⟩, rfl, ⟨rfl, ?_, rfl, s3', s4, rfl⟩, ⟨i64_of_wf w0, by show k1.toNat ≤ 18446744073709551615; omega, i64_of_wf w2, w3', fun n hn => i64_of_wf (w4 n hn), i64_of_wf w5⟩, ?_⟩
  · show Value.int .u64 k1 = _
    rw [Int.toNat_of_nonneg hu.1]
  · have b3 : l3.length ≤ Rows.uptoBulk y3.1 := by
      rcases d3 with ⟨_, rfl⟩ | ⟨el, sp, h1, h2⟩
      · simp
      · rw [h1]; have := bulk_slice el sp; omega
    have b4 : l4.length ≤ Rows.uptoBulk y4.1 := by
      rcases d4 with ⟨_, rfl⟩ | ⟨el, sp, h1, h2⟩
      · simp
      · rw [h1]; have := bulk_slice el sp; omega
    simp only [It.wt, List.length_map, Rows.uptoBulk, Rows.uptoBulkAll, List.map_cons, List.map_nil]
    omega
theorem open_items {v : Value} {d : DataW H} {ps : List MemPlace} (hv : ∃ a len cap, v = .slice a len cap) (h : DataW.Trod enc Try.prog w base spare held 39 v d ps) :
    ∃ l : List It, Its (fun b => b < w.heap.size) w v l ∧ (∀ x ∈ l, x.ok) ∧ wts l ≤ 20 * Rows.uptoBulk d := by
  obtain ⟨a, len, cap, rfl⟩ := hv
  obtain ⟨fuel, hf⟩ := h
  have h6 : Try.prog.cellsOf 46 = 6 := by kernel_rfl
  rcases Go.Deep.open_slice Try.underlying39 hf with ⟨hcs, hx⟩ | ⟨x, len', cap', m, n, D, Pl, hcs, _, hl, hm, hmm, hx, hel⟩
  · simp [Value.cells] at hcs
    obtain ⟨rfl, rfl, rfl⟩ := hcs
    exact ⟨[], ⟨[], ⟨rfl, .inl ⟨rfl, rfl⟩⟩, fun i h => by simp at h⟩, by simp, by simp [wts]⟩
  · simp [Value.cells] at hcs
    obtain ⟨rfl, rfl, rfl⟩ := hcs
    simp only [Prod.mk.injEq] at hx
    have hlm : len ≤ m := by rw [hmm]; split <;> omega
    rw [h6] at hel
    have hall : ∀ i, i < len → ∃ y : List Value × It, w.cells? base (x.add (i * 6)) 6 = some y.1 ∧ ItCells (fun b => b < w.heap.size) w (fun j => y.1.getD j undef) y.2 ∧ y.2.ok ∧ y.2.wt ≤ 20 * Rows.uptoBulk (D i) := by
      intro i hi
      obtain ⟨cs, h1, h2⟩ := hel i (by omega)
      obtain ⟨y, g1, g2, g3, g4⟩ := open_item h2
      exact ⟨(cs, y), h1, g2, g3, g4⟩
    haveI : Inhabited It := ⟨⟨0, 0, 0, [], [], 0⟩⟩
    obtain ⟨f, hfi⟩ := Go.Deep.choose_lt hall
    have hcl : ∀ i, i < len → (f i).1.length = 6 ∧ ∀ r, r < 6 → w.cell? (x.add (i * 6 + r)) = some ((f i).1.getD r undef) := by
      intro i hi
      obtain ⟨_, h1, h2⟩ := World.cells?_some (hfi i hi).1
      refine ⟨h1, fun r hr => ?_⟩
      have h3 := h2 r hr
      rw [Go.Deep.add_add] at h3
      rw [h3]
      simp [List.getD, show r < (f i).1.length by omega]
    have hxs : ∀ j, j < len * 6 → ((List.range (len * 6)).map fun j => (f (j / 6)).1.getD (j % 6) undef).getD j undef = (f (j / 6)).1.getD (j % 6) undef := by
      intro j hj
      simp [List.getD, hj]
    refine ⟨(List.range len).map (fun i => (f i).2), ⟨(List.range (len * 6)).map fun j => (f (j / 6)).1.getD (j % 6) undef, ⟨by simp, .inr ⟨x, cap, by simp, by simpa using hl, hm, fun hn => ?_⟩⟩, fun i hi => ?_⟩, fun y hy => ?_, ?_⟩
    · simp only [List.length_map, List.length_range] at hn ⊢
      obtain ⟨b, o, sp⟩ := x
      have h1 := (hcl 0 hn).2 0 (by omega)
      have hsp : sp = none := by simpa [Addr.add] using World.cell?_spot h1
      subst hsp
      have h2 : w.cell? ⟨b, o, none⟩ = some ((f 0).1.getD 0 undef) := by simpa [Addr.add] using h1
      refine ⟨b, o, rfl, cell_lt h2, cell_lt h2, fun j hj => ?_⟩
      have h3 := (hcl (j / 6) (by omega)).2 (j % 6) (by omega)
      rw [show j / 6 * 6 + j % 6 = j by omega, show (⟨b, o, none⟩ : Addr).add j = ⟨b, o + j, none⟩ by unfold Addr.add; split <;> simp_all] at h3
      rw [h3, hxs j hj]
    · simp only [List.length_map, List.length_range] at hi
      obtain ⟨_, h1, _⟩ := hfi i hi
      have hj : ∀ j, j < 6 → ((List.range (len * 6)).map fun j => (f (j / 6)).1.getD (j % 6) undef).getD (i * 6 + j) undef = (f i).1.getD j undef := by
        intro j hj
        rw [hxs _ (by omega), show (i * 6 + j) / 6 = i by omega, show (i * 6 + j) % 6 = j by omega]
      simp only [List.getElem_map, List.getElem_range]
      obtain ⟨c0, c1, c2, c3, c4, c5⟩ := h1
      exact ⟨(hj 0 (by omega)).trans c0, (hj 1 (by omega)).trans c1, (hj 2 (by omega)).trans c2, by show Sl _ _ (List.getD _ (i * 6 + 3) undef) _; rw [hj 3 (by omega)]; exact c3, by show Sl _ _ (List.getD _ (i * 6 + 4) undef) _; rw [hj 4 (by omega)]; exact c4, (hj 5 (by omega)).trans c5⟩
    · obtain ⟨i, hi, rfl⟩ := List.mem_map.1 hy
      exact (hfi i (List.mem_range.1 hi)).2.2.1
    · rw [hx.1]
      have : ∀ k, k ≤ len → wts ((List.range k).map (fun i => (f i).2)) ≤ 20 * Rows.uptoBulkAll ((List.range k).map D) := by
        intro k
        induction k with
        | zero => intro _; simp [wts]
        | succ k ih =>
          intro hk
          have h1 := ih (by omega)
          have h2 := (hfi k (by omega)).2.2.2
          rw [List.range_succ, List.map_append, List.map_append, wts_append, bulk_append]
          simp only [List.map_cons, List.map_nil, wts_cons, Rows.uptoBulkAll]
          simp only [wts, List.map_nil, List.sum_nil]
          simp only [wts] at h1
          omega
      have h3 := this len (Nat.le_refl _)
      simp only [Rows.uptoBulk]
      omega
end
end Go.Proofs.Ytlebocjcelbbpaa
