/- A struct of one-cell fields that came in, and a case of the clock's laws, opened. -/
import Derived.Test.YtjdalhnffhoknaaOpen
import Derived.Test.YtjdalhnffhoknaaClockE
import Derived.Lib.SmallJoins
import Derived.Deep.Fields
namespace Go.Proofs.Ytjdalhnffhoknaa
open Go.Joins Go.ChangeShapes Go.WideShapes Go.RowKit Go.Deep

section
variable {H : Type} {enc : TypeId × Value → H} {P : Program} {w : World} {base : Nat} {spare : Nat → Bool} {held : Bool}
theorem open_fields {r : Reach} {b0 : Nat} {t : TypeId} {fs : Array Field} {v : Value} {d : DataW H} {p : List MemPlace} (hs : P.underlying t = some (.struct fs)) (hone : oneCellFields P fs = true) (hC : P.cellsOf t = fs.size)
    (hv : Value.okWide P w r b0 t v) (h : DataW.Trod enc P w base spare held t v d p) :
    ∃ (l : List Value) (n : Nat), v = .agg l.toArray ∧ l.length = fs.size ∧ ∀ (j : Nat) (f : Field), fs[j]? = some f → ∃ (c : Value) (y : DataW H × List MemPlace), l[j]? = some c ∧ DataW.trod enc P w base spare held n f.type [c] = some y := by
  obtain ⟨cs, rfl, hsz⟩ := okWide_struct hs hv
  obtain ⟨l⟩ := cs
  obtain ⟨fuel, hf⟩ := h
  obtain ⟨xs, n, _, hx, _, hlen, hg⟩ := DataW.trod_struct hs hf
  have hl : l.length = fs.size := hsz.trans hC
  refine ⟨l, n, rfl, hl, fun j f hj => ?_⟩
  have hjl : j < fs.size := (Array.getElem?_eq_some_iff.1 hj).1
  obtain ⟨o, k⟩ := hone_of hone j f hj
  have h1 := hg j f hj
  rw [o, k] at h1
  have e : (l.drop j).take 1 = [l[j]'(by omega)] := by
    rw [List.drop_eq_getElem_cons (by omega)]
    rfl
  simp only [Value.cells] at h1
  rw [e] at h1
  have hxj : j < xs.length := by omega
  exact ⟨l[j]'(by omega), xs[j], List.getElem?_eq_getElem _, h1.trans (List.getElem?_eq_getElem hxj)⟩
theorem int_field {n : Nat} {t : TypeId} {l : List Value} {j : Nat} (ht : P.underlying t = some (.int .i64)) (h : ∃ (c : Value) (y : DataW H × List MemPlace), l[j]? = some c ∧ DataW.trod enc P w base spare held n t [c] = some y) : ∃ z : Int, l[j]? = some (.int .i64 z) ∧ i64ok z := by
  obtain ⟨c, y, h1, h2⟩ := h
  obtain ⟨z, h3, _, h4⟩ := DataW.trod_int ht h2
  simp at h3
  subst h3
  exact ⟨z, h1, i64_of_wf h4⟩
end
theorem list7 {l : List Value} {a b c d e f g : Value} (hl : l.length = 7) (h0 : l[0]? = some a) (h1 : l[1]? = some b) (h2 : l[2]? = some c) (h3 : l[3]? = some d) (h4 : l[4]? = some e) (h5 : l[5]? = some f) (h6 : l[6]? = some g) : l = [a, b, c, d, e, f, g] := by
  match l, hl with
  | [x0, x1, x2, x3, x4, x5, x6], _ => simp at h0 h1 h2 h3 h4 h5 h6; simp [*]
theorem open_case {H : Type} {enc : TypeId × Value → H} {w : World} {base : Nat} {spare : Nat → Bool} {held : Bool} {r : Reach} {b0 : Nat} {v : Value} {d : DataW H} {p : List MemPlace}
    (hv : Value.okWide Try.prog w r b0 23 v) (h : DataW.Trod enc Try.prog w base spare held 23 v d p) :
    ∃ x : Case, v = .agg #[.int .i64 x.lo, .int .i64 x.wide, .int .i64 x.sent, .int .i64 x.took, .int .i64 x.since, .int .i64 x.tick, .int .i64 x.drift] ∧ x.ok := by
  obtain ⟨l, n, rfl, hl, hf⟩ := open_fields Try.underlying23 (by kernel_rfl) (by kernel_rfl) hv h
  obtain ⟨z0, g0, o0⟩ := int_field Try.underlying3 (hf 0 _ rfl)
  obtain ⟨z1, g1, o1⟩ := int_field Try.underlying3 (hf 1 _ rfl)
  obtain ⟨z2, g2, o2⟩ := int_field Try.underlying3 (hf 2 _ rfl)
  obtain ⟨z3, g3, o3⟩ := int_field Try.underlying3 (hf 3 _ rfl)
  obtain ⟨z4, g4, o4⟩ := int_field Try.underlying3 (hf 4 _ rfl)
  obtain ⟨z5, g5, o5⟩ := int_field Try.underlying3 (hf 5 _ rfl)
  obtain ⟨z6, g6, o6⟩ := int_field Try.underlying3 (hf 6 _ rfl)
  obtain rfl := list7 hl g0 g1 g2 g3 g4 g5 g6
  exact ⟨⟨z0, z1, z2, z3, z4, z5, z6⟩, rfl, o0, o1, o2, o3, o4, o5, o6⟩
end Go.Proofs.Ytjdalhnffhoknaa
