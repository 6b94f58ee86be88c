/-
  For every byte slice and list of items that hold together at most 1048576 values, the Go function WireCanonical returns true, and its arguments read behind the call as they read before.
-/
import Derived.Test.YtlebocjcelbbpaaWireCa
import Derived.Test.YtlebocjcelbbpaaOpenIt
import Derived.JoinedCond
namespace Go.Proofs.Ytlebocjcelbbpaa.wireCanonicalUpto
open Go.ChangeShapes Go.WideShapes Go.ChangeAt Go.RowKit

theorem own : ownKnob Try.prog.godebug = none := by kernel_rfl
theorem laidOut : laidOutB Try.prog = true := by kernel_rfl

set_option maxRecDepth 100000 in
theorem contract (H : Type) (enc : TypeId × Value → H) (W : World) (base : Nat) (args : Array Value) (ds gs : List (DataW H)) (before : List MemPlace)
    (hval : ∀ (j : Nat) t v, Try.f11.params[j]? = some t → args[j]? = some v → Value.okWide Try.prog W .any base t v)
    (hW : DataW.Whole enc Try.prog Try.f11.params.toList Rows.wireCanonicalSpec.vars false W args.toList ds gs before)
    (hbulk0 : Rows.uptoSmall H (ds ++ gs) = true) :
    Calls Try.prog 11 args W fun e W' => ∃ v, e = .returned v ∧ Rows.wireCanonicalSpec.post enc Try.prog Try.f11 false true false false W args v W' := by
  have hbulk := bulk_bound hbulk0; clear hbulk0
  have hW' := hW
  obtain ⟨p, q, hA0, hV, rfl, hfz, hnd⟩ := hW
  have hA : DataW.TrodAll enc Try.prog W 0 (fun _ => true) true Try.f11.params.toList args.toList ds p := hA0
  rw [Try.params11] at hA hval
  obtain ⟨v0, vs0, d0, ds0, p0, q0, hargs, rfl, rfl, h0, r0⟩ := trodAll_cons hA
  obtain ⟨v1, vs1, d1, ds1, p1, q1, rfl, rfl, rfl, h1, r1⟩ := trodAll_cons r0
  obtain ⟨rfl, rfl, rfl⟩ := trodAll_nil r1
  obtain rfl : args = #[v0, v1] := by cases args; simp_all
  obtain ⟨rfl, rfl⟩ := trodVars_none hV
  simp only [List.append_nil, List.nil_append, Rows.uptoBulkAll] at hbulk
  have k0 := h0
  have lt0 : ∀ x ∈ p0, x.block < W.heap.size := by obtain ⟨m, hm⟩ := k0; exact DataW.trod_lt m _ _ _ hm
  obtain ⟨l0, hS0, hl0, hd0⟩ := open_u8s Try.underlying22 Try.underlying5 (by kernel_rfl) (by obtain ⟨a, n, c, h⟩ := okWide_slice Try.underlying22 (hval 0 22 v0 rfl rfl); exact ⟨a, n, c, h⟩) h0
  have hn0 : l0.length ≤ Rows.uptoBulk d0 := by
    rcases hd0 with ⟨_, rfl⟩ | ⟨elems, sp, hd, hle⟩
    · simp
    · rw [hd]; have := bulk_slice elems sp; omega
  have k1 := h1
  have lt1 : ∀ x ∈ p1, x.block < W.heap.size := by obtain ⟨m, hm⟩ := k1; exact DataW.trod_lt m _ _ _ hm
  obtain ⟨l1, hS1, hl1, hd1⟩ := open_items (by obtain ⟨a, n, c, h⟩ := okWide_slice Try.underlying39 (hval 1 39 v1 rfl rfl); exact ⟨a, n, c, h⟩) h1
  refine (wireCanonical_any v0 v1 l0 l1 W hS0 (by omega) hl0 hS1 hl1 (by omega)).mono fun e W' ⟨he, hk⟩ => ?_
  have bel : Below W.heap.size W W' := hk.below (Nat.le_refl _) (fun _ _ h => h)
  subst he
  exact ⟨_, rfl, _, _, _, [], _, [], hW', trodAll_mk1 (shut_bool Try.underlying4 _), (trodAll_cons_mk (Below.trod laidOut (by kernel_rfl) (of_decide_eq_true (by kernel_rfl)) k0 bel lt0) (trodAll_cons_mk (Below.trod laidOut (by kernel_rfl) (of_decide_eq_true (by kernel_rfl)) k1 bel lt1) trodAll_mk0)), rfl, bel.frame _, fun h => by cases h⟩

set_option maxRecDepth 100000 in
theorem lifted (os : Os) (started : os.Started) (H : Type) (enc : TypeId × Value → H) (F : Stop.Interp) :
    ReturnsInHanded {} Try.checked os 11 .any ((Rows.OpenSpec.upto Rows.wireCanonicalSpec).pre6 enc Try.prog Try.f11 Rows.wireCanonicalUptoRow.domain false) (((Rows.OpenSpec.upto Rows.wireCanonicalSpec).at F).post enc Try.prog Try.f11 false true false false) := by
  refine returnsInHanded_of_cond (C := Try.checked) (s := Rows.OpenSpec.upto Rows.wireCanonicalSpec) (k := Rows.uptoSmall) rfl own started (by kernel_rfl) Try.func11
    (OpenSpec.witness (enc := enc) (C := Try.checked) (s := Rows.OpenSpec.upto Rows.wireCanonicalSpec) (k := Rows.uptoSmall) rfl false ⟨#[], #[.slice none 0 0, .slice none 0 0], []⟩ 8 (by kernel_rfl) (by kernel_rfl) (by kernel_rfl)
      (x := ([.nil, .nil], [], [])) (by kernel_rfl) rfl (by kernel_rfl)) ?_
  intro W base args ds gs before hval hW _ hk _
  exact contract H enc W base args ds gs before hval hW hk

theorem over : Rows.wireCanonicalUptoRow.holds Try.pinned (Rows.OpenSpec.upto Rows.wireCanonicalSpec) :=
  OpenClaim.holds_of_cond 11 Try.f11 rfl rfl rfl rfl rfl rfl rfl ⟨rfl, rfl, rfl, rfl, rfl⟩ rfl rfl rfl rfl rfl (by kernel_rfl) Try.func11 (by kernel_rfl)
    (of_decide_eq_true (by kernel_rfl)) (by unfold Func.isWrapper; first | (rw [if_pos (by decide +kernel)]; kernel_rfl) | (rw [if_neg (by decide +kernel)]; exact ⟨rfl, rfl⟩))
    (fun os started H enc _ F => lifted os started H enc F)
theorem proved : Rows.WireCanonicalUptoSaid := over
end Go.Proofs.Ytlebocjcelbbpaa.wireCanonicalUpto
