/-
  For all tables and messages, the Go function LinkPlain returns true, and its arguments read behind the call as they read before. No condition.
-/
import Derived.Test.YtjapmpolagblaaaLinkAD
import Derived.Test.YtjapmpolagblaaaOpenA
import Derived.SizedLaws
namespace Go.Proofs.Ytjapmpolagblaaa.linkPlain
open Go.ChangeShapes Go.WideShapes Go.ChangeAt Go.RowKit

theorem own : ownKnob Try.prog.godebug = none := by kernel_rfl
theorem laidOut : laidOutB Try.prog = true := by kernel_rfl

set_option maxRecDepth 100000 in
theorem contract (H : Type) (enc : TypeId × Value → H) (W : World) (base : Nat) (args : Array Value) (ds gs : List (DataW H)) (before : List MemPlace)
    (hval : ∀ (j : Nat) t v, Try.f3.params[j]? = some t → args[j]? = some v → Value.okWide Try.prog W .any base t v)
    (hW : DataW.Whole enc Try.prog Try.f3.params.toList Rows.linkPlainSpec.vars false W args.toList ds gs before)
    (hsized : (DataW.weightsEach Try.prog (Try.f3.params.toList ++ Rows.linkPlainSpec.plain.varTypes Try.prog) (ds ++ gs)).all (· ≤ reachBytes) = true) :
    Calls Try.prog 3 args W fun e W' => ∃ v, e = .returned v ∧ Rows.linkPlainSpec.post enc Try.prog Try.f3 false true false false W args v W' := by
  have hW' := hW
  obtain ⟨p, q, hA0, hV, rfl, hfz, hnd⟩ := hW
  have hA : DataW.TrodAll enc Try.prog W 0 (fun _ => true) true Try.f3.params.toList args.toList ds p := hA0
  rw [Try.params3] at hA hval hsized
  obtain ⟨v0, vs0, d0, ds0, p0, q0, hargs, rfl, rfl, h0, r0⟩ := trodAll_cons hA
  obtain ⟨v1, vs1, d1, ds1, p1, q1, rfl, rfl, rfl, h1, r1⟩ := trodAll_cons r0
  obtain ⟨rfl, rfl, rfl⟩ := trodAll_nil r1
  obtain rfl : args = #[v0, v1] := by cases args; simp_all
  obtain ⟨rfl, rfl⟩ := trodVars_none hV
  have k0 := h0
  have lt0 : ∀ x ∈ p0, x.block < W.heap.size := by obtain ⟨m, hm⟩ := k0; exact DataW.trod_lt m _ _ _ hm
  obtain ⟨l0, hS0, hl0, hd0⟩ := open_i64s Try.underlying22 Try.underlying3 (by kernel_rfl) (by obtain ⟨a, n, c, h⟩ := okWide_slice Try.underlying22 (hval 0 22 v0 rfl rfl); exact ⟨a, n, c, h⟩) h0
  have hn0 : l0.length ≤ 140737488351232 := by
    rcases hd0 with ⟨_, rfl⟩ | ⟨elems, sp, hd, hle⟩
    · simp
    · have h1 := sized_slice hsized (j := 0) (t := 22) (e := 3) (elems := elems) (spare := sp) rfl (by rw [hd]; rfl) Try.underlying22
      have hb : Try.prog.bytesOf 3 = 8 := by kernel_rfl
      rw [hb] at h1
      unfold reachBytes at h1
      omega
  have k1 := h1
  have lt1 : ∀ x ∈ p1, x.block < W.heap.size := by obtain ⟨m, hm⟩ := k1; exact DataW.trod_lt m _ _ _ hm
  obtain ⟨m1, hS1⟩ := open_arr (by decide) Try.underlying23 Try.underlying31 Try.underlying3 (by kernel_rfl) (by kernel_rfl) (by obtain ⟨a, n, c, h⟩ := okWide_slice Try.underlying23 (hval 1 23 v1 rfl rfl); exact ⟨a, n, c, h⟩) h1
  refine (plain_any v0 v1 l0 m1 W hS0 hl0 hS1).mono fun e W' ⟨he, hk⟩ => ?_
  have bel : Below W.heap.size W W' := hk.below (Nat.le_refl _) (fun _ _ h => h)
  subst he
  exact ⟨_, rfl, _, _, _, [], _, [], hW', trodAll_mk1 (shut_bool Try.underlying4 _), (trodAll_cons_mk (Below.trod laidOut (by kernel_rfl) (of_decide_eq_true (by kernel_rfl)) k0 bel lt0) (trodAll_cons_mk (Below.trod laidOut (by kernel_rfl) (of_decide_eq_true (by kernel_rfl)) k1 bel lt1) trodAll_mk0)), rfl, bel.frame _, fun h => by cases h⟩

set_option maxRecDepth 100000 in
theorem lifted (os : Os) (started : os.Started) (H : Type) (enc : TypeId × Value → H) :
    ReturnsInHanded {} Try.checked os 3 .any (Rows.linkPlainSpec.pre6 enc Try.prog Try.f3 Rows.linkPlainRow.domain false) (Rows.linkPlainSpec.post enc Try.prog Try.f3 false true false false) := by
  refine returnsInHanded_of_change_sized (C := Try.checked) own started (by kernel_rfl) Try.func3
    (ChangeSpec.witness6 (enc := enc) (C := Try.checked) false ⟨#[], #[.slice none 0 0, .slice none 0 0], []⟩ 8 (by kernel_rfl) (by kernel_rfl) (by kernel_rfl) (by kernel_rfl)) ?_
  intro W base args ds gs before hval hW _ hs _
  exact contract H enc W base args ds gs before hval hW hs

theorem over : Rows.linkPlainRow.holds Try.pinned (OpenSpec.ofChange Rows.linkPlainSpec) :=
  OpenClaim.holds_of_wide 3 Try.f3 rfl rfl rfl rfl rfl rfl rfl ⟨rfl, rfl, rfl, rfl, rfl⟩ rfl rfl rfl rfl rfl (by kernel_rfl) Try.func3 (by kernel_rfl)
    (of_decide_eq_true (by kernel_rfl)) (by unfold Func.isWrapper; first | (rw [if_pos (by decide +kernel)]; kernel_rfl) | (rw [if_neg (by decide +kernel)]; exact ⟨rfl, rfl⟩))
    (fun os started H enc _ => lifted os started H enc)
theorem proved : Rows.LinkPlainSaid := over
end Go.Proofs.Ytjapmpolagblaaa.linkPlain
