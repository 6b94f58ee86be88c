/-
  For all byte slices and fates, the Go function LinkSpoils returns true, and its arguments read behind the call as they read before. No condition.
-/
import Derived.Test.YtffnocjaljgnoaaLinkY
import Derived.Test.YtffnocjaljgnoaaOpenA
import Derived.SizedLaws
namespace Go.Proofs.Ytffnocjaljgnoaa.linkSpoils
open Go.ChangeShapes Go.WideShapes Go.ChangeAt Go.RowKit

theorem own : ownKnob Try.prog.godebug = none := by kernel_rfl
theorem laidOut : laidOutB Try.prog = true := by kernel_rfl

set_option maxRecDepth 100000 in
theorem contract (H : Type) (enc : TypeId × Value → H) (W : World) (base : Nat) (args : Array Value) (ds gs : List (DataW H)) (before : List MemPlace)
    (hval : ∀ (j : Nat) t v, Try.f5.params[j]? = some t → args[j]? = some v → Value.okWide Try.prog W .any base t v)
    (hW : DataW.Whole enc Try.prog Try.f5.params.toList Rows.linkSpoilsSpec.vars false W args.toList ds gs before)
    (hsized : (DataW.weightsEach Try.prog (Try.f5.params.toList ++ Rows.linkSpoilsSpec.plain.varTypes Try.prog) (ds ++ gs)).all (· ≤ reachBytes) = true) :
    Calls Try.prog 5 args W fun e W' => ∃ v, e = .returned v ∧ Rows.linkSpoilsSpec.post enc Try.prog Try.f5 false true false false W args v W' := by
  have hW' := hW
  obtain ⟨p, q, hA0, hV, rfl, hfz, hnd⟩ := hW
  have hA : DataW.TrodAll enc Try.prog W 0 (fun _ => true) true Try.f5.params.toList args.toList ds p := hA0
  rw [Try.params5] at hA hval hsized
  obtain ⟨v0, vs0, d0, ds0, p0, q0, hargs, rfl, rfl, h0, r0⟩ := trodAll_cons hA
  obtain ⟨v1, vs1, d1, ds1, p1, q1, rfl, rfl, rfl, h1, r1⟩ := trodAll_cons r0
  obtain ⟨v2, vs2, d2, ds2, p2, q2, rfl, rfl, rfl, h2, r2⟩ := trodAll_cons r1
  obtain ⟨v3, vs3, d3, ds3, p3, q3, rfl, rfl, rfl, h3, r3⟩ := trodAll_cons r2
  obtain ⟨rfl, rfl, rfl⟩ := trodAll_nil r3
  obtain rfl : args = #[v0, v1, v2, v3] := by cases args; simp_all
  obtain ⟨rfl, rfl⟩ := trodVars_none hV
  have k0 := h0
  have lt0 : ∀ x ∈ p0, x.block < W.heap.size := by obtain ⟨m, hm⟩ := k0; exact DataW.trod_lt m _ _ _ hm
  obtain ⟨l0, hS0, hl0, hd0⟩ := open_u8s Try.underlying24 Try.underlying5 (by kernel_rfl) (by obtain ⟨a, n, c, h⟩ := okWide_slice Try.underlying24 (hval 0 24 v0 rfl rfl); exact ⟨a, n, c, h⟩) h0
  have hn0 : l0.length ≤ 140737488351232 := by
    rcases hd0 with ⟨_, rfl⟩ | ⟨elems, sp, hd, hle⟩
    · simp
    · have h1 := sized_slice hsized (j := 0) (t := 24) (e := 5) (elems := elems) (spare := sp) rfl (by rw [hd]; rfl) Try.underlying24
      have hb : Try.prog.bytesOf 5 = 1 := by kernel_rfl
      rw [hb] at h1
      unfold reachBytes at h1
      omega
  obtain ⟨a1, rfl, rfl, rfl, w1⟩ := open_int Try.underlying3 (hval 1 3 v1 rfl rfl) h1
  obtain ⟨a2, rfl, rfl, rfl, w2⟩ := open_int Try.underlying3 (hval 2 3 v2 rfl rfl) h2
  have k3 := h3
  have lt3 : ∀ x ∈ p3, x.block < W.heap.size := by obtain ⟨m, hm⟩ := k3; exact DataW.trod_lt m _ _ _ hm
  obtain ⟨l3, hS3, hl3, hd3⟩ := open_u8s Try.underlying24 Try.underlying5 (by kernel_rfl) (by obtain ⟨a, n, c, h⟩ := okWide_slice Try.underlying24 (hval 3 24 v3 rfl rfl); exact ⟨a, n, c, h⟩) h3
  have hn3 : l3.length ≤ 140737488351232 := by
    rcases hd3 with ⟨_, rfl⟩ | ⟨elems, sp, hd, hle⟩
    · simp
    · have h1 := sized_slice hsized (j := 3) (t := 24) (e := 5) (elems := elems) (spare := sp) rfl (by rw [hd]; rfl) Try.underlying24
      have hb : Try.prog.bytesOf 5 = 1 := by kernel_rfl
      rw [hb] at h1
      unfold reachBytes at h1
      omega
  refine (spoils_any v0 v3 l0 l3 a1 a2 W hS0 hl0 (i64_of_wf w1) hS3 hl3).mono fun e W' ⟨he, hk⟩ => ?_
  have bel : Below W.heap.size W W' := hk.below (Nat.le_refl _) (fun _ _ h => h)
  subst he
  exact ⟨_, rfl, _, _, _, [], _, [], hW', trodAll_mk1 (shut_bool Try.underlying4 _), (trodAll_cons_mk (Below.trod laidOut (by kernel_rfl) (of_decide_eq_true (by kernel_rfl)) k0 bel lt0) (trodAll_cons_mk (shut_int Try.underlying3 w1) (trodAll_cons_mk (shut_int Try.underlying3 w2) (trodAll_cons_mk (Below.trod laidOut (by kernel_rfl) (of_decide_eq_true (by kernel_rfl)) k3 bel lt3) trodAll_mk0)))), rfl, bel.frame _, fun h => by cases h⟩

set_option maxRecDepth 100000 in
theorem lifted (os : Os) (started : os.Started) (H : Type) (enc : TypeId × Value → H) :
    ReturnsInHanded {} Try.checked os 5 .any (Rows.linkSpoilsSpec.pre6 enc Try.prog Try.f5 Rows.linkSpoilsRow.domain false) (Rows.linkSpoilsSpec.post enc Try.prog Try.f5 false true false false) := by
  refine returnsInHanded_of_change_sized (C := Try.checked) own started (by kernel_rfl) Try.func5
    (ChangeSpec.witness6 (enc := enc) (C := Try.checked) false ⟨#[], #[.slice none 0 0, .int .i64 0, .int .i64 0, .slice none 0 0], []⟩ 8 (by kernel_rfl) (by kernel_rfl) (by kernel_rfl) (by kernel_rfl)) ?_
  intro W base args ds gs before hval hW _ hs _
  exact contract H enc W base args ds gs before hval hW hs

theorem over : Rows.linkSpoilsRow.holds Try.pinned (OpenSpec.ofChange Rows.linkSpoilsSpec) :=
  OpenClaim.holds_of_wide 5 Try.f5 rfl rfl rfl rfl rfl rfl rfl ⟨rfl, rfl, rfl, rfl, rfl⟩ rfl rfl rfl rfl rfl (by kernel_rfl) Try.func5 (by kernel_rfl)
    (of_decide_eq_true (by kernel_rfl)) (by unfold Func.isWrapper; first | (rw [if_pos (by decide +kernel)]; kernel_rfl) | (rw [if_neg (by decide +kernel)]; exact ⟨rfl, rfl⟩))
    (fun os started H enc _ => lifted os started H enc)
theorem proved : Rows.LinkSpoilsSaid := over
end Go.Proofs.Ytffnocjaljgnoaa.linkSpoils
