/- A segment and a list of segments that came in, opened. -/
import Derived.Test.YtgeicbjlichdgaaDoorFileC
import Derived.Deep.Slices
import Derived.Deep.Fields
import Derived.Test.YtgeicbjlichdgaaDoorOpen
import Derived.Lib.SmallJoins
import Derived.ChangeSame
namespace Go.Proofs.YtgeicbjlichdgaaDoor
open Go.Joins Go.ChangeShapes Go.WideShapes Go.ChangeAt Go.RowKit
structure Seg.okS (x : Seg) : Prop where
  f : -9223372036854775808 ≤ x.f ∧ x.f ≤ 9223372036854775807
  o : -9223372036854775808 ≤ x.o ∧ x.o ≤ 9223372036854775807
  t : -9223372036854775808 ≤ x.t ∧ x.t ≤ 9223372036854775807
  s : x.s < 4294967296
  d : ∀ c ∈ x.d, c < 256
theorem u32_of_wf {n : Int} (h : (Lit.int .u32 n).wf = true) : 0 ≤ n ∧ n ≤ 4294967295 := by
  simpa [Lit.wf, IntKind.min, IntKind.max, IntKind.signed, IntKind.bits] using h
section
variable {H : Type} {enc : TypeId × Value → H} {w : World} {base : Nat} {spare : Nat → Bool} {held : Bool}
set_option maxRecDepth 100000 in
theorem open_segc {fuel : Nat} {cs : List Value} {d : DataW H × List MemPlace} (h : DataW.trod enc Tryd.prog w base spare held fuel 44 cs = some d) :
    ∃ x : Seg, cs.length = 5 ∧ SgCells (fun b => b < w.heap.size) w (fun j => cs.getD j undef) x ∧ x.okS := by
  have h6 : Tryd.prog.cellsOf 44 = 5 := by kernel_rfl
  have c3 : Tryd.prog.cellsOf 3 = 1 := by kernel_rfl
  have c25 : Tryd.prog.cellsOf 42 = 1 := by kernel_rfl
  have c22 : Tryd.prog.cellsOf 22 = 1 := by kernel_rfl
  have c5 : Tryd.prog.cellsOf 5 = 1 := by kernel_rfl
  obtain ⟨xs, n, rfl, rfl, hcl, hxl, hf⟩ := DataW.trod_struct Tryd.underlying44 h
  rw [h6] at hcl
  have hxl : xs.length = 5 := hxl
  obtain ⟨a0, a1, a2, a3, a4, rfl⟩ : ∃ a0 a1 a2 a3 a4, cs = [a0, a1, a2, a3, a4] := by
    match cs, hcl with
    | [a0, a1, a2, a3, a4], _ => exact ⟨a0, a1, a2, a3, a4, rfl⟩
  obtain ⟨y0, y1, y2, y3, y4, rfl⟩ : ∃ y0 y1 y2 y3 y4, xs = [y0, y1, y2, y3, y4] := by
    match xs, hxl with
    | [y0, y1, y2, y3, y4], _ => exact ⟨y0, y1, y2, y3, y4, rfl⟩
  have f0 : DataW.trod enc Tryd.prog w base spare held n 3 [a0] = some y0 := by
    have h : DataW.trod enc Tryd.prog w base spare held n 3 (List.take (Tryd.prog.cellsOf 3) [a0, a1, a2, a3, a4]) = some y0 := hf 0 _ rfl
    rw [c3] at h
    exact h
  have f1 : DataW.trod enc Tryd.prog w base spare held n 3 [a1] = some y1 := by
    have h : DataW.trod enc Tryd.prog w base spare held n 3 (List.take (Tryd.prog.cellsOf 3) [a1, a2, a3, a4]) = some y1 := hf 1 _ rfl
    rw [c3] at h
    exact h
  have f2 : DataW.trod enc Tryd.prog w base spare held n 3 [a2] = some y2 := by
    have h : DataW.trod enc Tryd.prog w base spare held n 3 (List.take (Tryd.prog.cellsOf 3) [a2, a3, a4]) = some y2 := hf 2 _ rfl
    rw [c3] at h
    exact h
  have f3 : DataW.trod enc Tryd.prog w base spare held n 42 [a3] = some y3 := by
    have h : DataW.trod enc Tryd.prog w base spare held n 42 (List.take (Tryd.prog.cellsOf 42) [a3, a4]) = some y3 := hf 3 _ rfl
    rw [c25] at h
    exact h
  have f4 : DataW.trod enc Tryd.prog w base spare held n 22 [a4] = some y4 := by
    have h : DataW.trod enc Tryd.prog w base spare held n 22 (List.take (Tryd.prog.cellsOf 22) [a4]) = some y4 := hf 4 _ rfl
    rw [c22] at h
    exact h
  obtain ⟨k0, e0, g0, w0⟩ := DataW.trod_int Tryd.underlying3 f0
  obtain ⟨k1, e1, g1, w1⟩ := DataW.trod_int Tryd.underlying3 f1
  obtain ⟨k2, e2, g2, w2⟩ := DataW.trod_int Tryd.underlying3 f2
  obtain ⟨k3, e3, g3, w3⟩ := DataW.trod_int Tryd.underlying42 f3
  obtain ⟨l4, s4, w4, d4⟩ := open_slice_c Tryd.underlying22 Tryd.underlying5 c5 f4
  simp at e0 e1 e2 e3
  subst e0 e1 e2 e3
  obtain ⟨s4', w4'⟩ := u8_list s4 w4
  have hu := u32_of_wf w3
  refine ⟨⟨k0, k1, k2, k3.toNat, l4.map Int.toNat⟩, rfl, ⟨rfl, rfl, rfl, ?_, s4'⟩, ⟨i64_of_wf w0, i64_of_wf w1, i64_of_wf w2, by show k3.toNat < _; omega, w4'⟩⟩
  show Value.int .u32 k3 = _
  rw [Int.toNat_of_nonneg hu.1]
set_option maxRecDepth 100000 in
theorem open_seg {r : Reach} {b0 : Nat} {v : Value} {d : DataW H} {ps : List MemPlace} (hv : Value.okWide Tryd.prog w r b0 44 v) (h : DataW.Trod enc Tryd.prog w base spare held 44 v d ps) :
    ∃ (x : Seg) (a : Option Addr) (c : Nat), v = .agg #[.int .i64 x.f, .int .i64 x.o, .int .i64 x.t, .int .u32 (x.s : Int), .slice a x.d.length c] ∧ Sl (fun b => b < w.heap.size) w (.slice a x.d.length c) (u8s x.d) ∧ x.okS := by
  obtain ⟨cs, rfl, hsz⟩ := okWide_struct Tryd.underlying44 hv
  obtain ⟨l⟩ := cs
  obtain ⟨fuel, hf⟩ := h
  obtain ⟨x, hl, ⟨e0, e1, e2, e3, e4⟩, ho⟩ := open_segc hf
  simp only [Value.cells] at hl e0 e1 e2 e3 e4
  obtain ⟨a, c, e5, _⟩ := e4.bytes
  rw [e5] at e4
  refine ⟨x, a, c, ?_, e4, ho⟩
  match l, hl with
  | [u0, u1, u2, u3, u4], _ =>
    simp only [List.getD, List.getElem?_cons_zero, List.getElem?_cons_succ, Option.getD_some] at e0 e1 e2 e3 e5
    subst e0 e1 e2 e3 e5
    rfl
set_option maxRecDepth 100000 in
theorem open_segs {v : Value} {d : DataW H} {ps : List MemPlace} (hv : ∃ a len cap, v = .slice a len cap) (h : DataW.Trod enc Tryd.prog w base spare held 23 v d ps) :
    ∃ l : List Seg, Sgs (fun b => b < w.heap.size) w v l ∧ (∀ x ∈ l, x.okS) := by
  obtain ⟨a, len, cap, rfl⟩ := hv
  obtain ⟨fuel, hf⟩ := h
  have h6 : Tryd.prog.cellsOf 44 = 5 := by kernel_rfl
  rcases Go.Deep.open_slice Tryd.underlying23 hf with ⟨hcs, hx⟩ | ⟨x, len', cap', m, n, D, Pl, hcs, _, hl, hm, hmm, hx, hel⟩
  · simp [Value.cells] at hcs
    obtain ⟨rfl, rfl, rfl⟩ := hcs
    exact ⟨[], Sgs.nil _ _, by simp⟩
  · simp [Value.cells] at hcs
    obtain ⟨rfl, rfl, rfl⟩ := hcs
    have hlm : len ≤ m := by rw [hmm]; split <;> omega
    rw [h6] at hel
    have hall : ∀ i, i < len → ∃ y : List Value × Seg, w.cells? base (x.add (i * 5)) 5 = some y.1 ∧ SgCells (fun b => b < w.heap.size) w (fun j => y.1.getD j undef) y.2 ∧ y.2.okS := by
      intro i hi
      obtain ⟨cs, h1, h2⟩ := hel i (by omega)
      obtain ⟨y, g1, g2, g3⟩ := open_segc h2
      exact ⟨(cs, y), h1, g2, g3⟩
    haveI : Inhabited Seg := ⟨⟨0, 0, 0, 0, []⟩⟩
    obtain ⟨f, hfi⟩ := Go.Deep.choose_lt hall
    have hcl : ∀ i, i < len → (f i).1.length = 5 ∧ ∀ r, r < 5 → w.cell? (x.add (i * 5 + r)) = some ((f i).1.getD r undef) := by
      intro i hi
      obtain ⟨_, h1, h2⟩ := World.cells?_some (hfi i hi).1
      refine ⟨h1, fun r hr => ?_⟩
      have h3 := h2 r hr
      rw [Go.Deep.add_add] at h3
      rw [h3]
      simp [List.getD, show r < (f i).1.length by omega]
    have hxs : ∀ j, j < len * 5 → ((List.range (len * 5)).map fun j => (f (j / 5)).1.getD (j % 5) undef).getD j undef = (f (j / 5)).1.getD (j % 5) undef := by
      intro j hj
      simp [List.getD, hj]
    refine ⟨(List.range len).map (fun i => (f i).2), ⟨(List.range (len * 5)).map fun j => (f (j / 5)).1.getD (j % 5) undef, ⟨by simp, .inr ⟨x, cap, by simp, by simpa using hl, hm, fun hn => ?_⟩⟩, by simp, fun i y hi => ?_⟩, fun y hy => ?_⟩
    · simp only [List.length_map, List.length_range] at hn ⊢
      obtain ⟨b, o, sp⟩ := x
      have h1 := (hcl 0 hn).2 0 (by omega)
      have hsp : sp = none := by simpa [Addr.add] using World.cell?_spot h1
      subst hsp
      have h2 : w.cell? ⟨b, o, none⟩ = some ((f 0).1.getD 0 undef) := by simpa [Addr.add] using h1
      refine ⟨b, o, rfl, cell_lt h2, cell_lt h2, fun j hj => ?_⟩
      have h3 := (hcl (j / 5) (by omega)).2 (j % 5) (by omega)
      rw [show j / 5 * 5 + j % 5 = j by omega, show (⟨b, o, none⟩ : Addr).add j = ⟨b, o + j, none⟩ by unfold Addr.add; split <;> simp_all] at h3
      rw [h3, hxs j hj]
    · have hil : i < len := by have := (List.getElem?_eq_some_iff.1 hi).1; simpa using this
      obtain rfl : (f i).2 = y := by simpa [hil] using hi
      obtain ⟨_, h1, _⟩ := hfi i hil
      have hj : ∀ j, j < 5 → ((List.range (len * 5)).map fun j => (f (j / 5)).1.getD (j % 5) undef).getD (i * 5 + j) undef = (f i).1.getD j undef := by
        intro j hj
        rw [hxs _ (by omega), show (i * 5 + j) / 5 = i by omega, show (i * 5 + j) % 5 = j by omega]
      exact h1.congr (fun j h => hj j h)
    · obtain ⟨i, hi, rfl⟩ := List.mem_map.1 hy
      exact (hfi i (List.mem_range.1 hi)).2.2
end
end Go.Proofs.YtgeicbjlichdgaaDoor
