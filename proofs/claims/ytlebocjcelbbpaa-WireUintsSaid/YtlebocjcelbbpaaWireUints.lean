/-
  For every byte slice, the Go function WireUints returns true, and its argument reads behind the call as it read before. No condition.
-/
import Derived.Test.YtlebocjcelbbpaaWireL1
import Derived.Test.YtlebocjcelbbpaaOpen
import Derived.SizedLaws
namespace Go.Proofs.Ytlebocjcelbbpaa.wireUints
open Go.ChangeShapes Go.WideShapes Go.ChangeAt Go.RowKit

theorem own : ownKnob Try.prog.godebug = none := by kernel_rfl
theorem laidOut : laidOutB Try.prog = true := by kernel_rfl

set_option maxRecDepth 100000 in
theorem lifted (os : Os) (started : os.Started) (H : Type) (enc : TypeId × Value → H) :
    ReturnsInHanded {} Try.checked os 3 .any (Rows.wireUintsSpec.pre6 enc Try.prog Try.f3 Rows.wireUintsRow.domain false) (Rows.wireUintsSpec.post enc Try.prog Try.f3 false true false false) := by
  refine returnsInHanded_of_change_sized (C := Try.checked) own started (by kernel_rfl) Try.func3
    (ChangeSpec.witness6 (enc := enc) (C := Try.checked) false ⟨#[], #[.slice none 0 0], []⟩ 8 (by kernel_rfl) (by kernel_rfl) (by kernel_rfl) (by kernel_rfl)) ?_
  intro W base args ds gs before hval0 hW hcnd hsized0 _
  have hval : ∀ (j : Nat) t v, Try.f3.params[j]? = some t → args[j]? = some v → Value.okWide Try.prog W .any base t v := hval0
  have hsized : (DataW.weightsEach Try.prog (Try.f3.params.toList ++ Rows.wireUintsSpec.plain.varTypes Try.prog) (ds ++ gs)).all (· ≤ reachBytes) = true := hsized0
  have hW' := hW
  obtain ⟨p, q, hA0, hV, rfl, hfz, hnd⟩ := hW
  have hA : DataW.TrodAll enc Try.prog W 0 (fun _ => true) true Try.f3.params.toList args.toList ds p := hA0
  rw [Try.params3] at hA hval hsized
  obtain ⟨v0, vs0, d0, ds0, p0, q0, hargs, rfl, rfl, h0, r0⟩ := trodAll_cons hA
  obtain ⟨rfl, rfl, rfl⟩ := trodAll_nil r0
  obtain rfl : args = #[v0] := by cases args; simp_all
  obtain ⟨rfl, rfl⟩ := trodVars_none hV
  have k0 := h0
  have lt0 : ∀ x ∈ p0, x.block < W.heap.size := by obtain ⟨m, hm⟩ := k0; exact DataW.trod_lt m _ _ _ hm
  obtain ⟨l, hS, hl, hd⟩ := open_u8s Try.underlying22 Try.underlying5 (by kernel_rfl) (by obtain ⟨a, n, c, h⟩ := okWide_slice Try.underlying22 (hval 0 22 v0 rfl rfl); exact ⟨a, n, c, h⟩) h0
  have hlen : l.length ≤ 140737488351232 := by
    rcases hd with ⟨_, rfl⟩ | ⟨elems, sp, hd, hle⟩
    · simp
    · have h1 := sized_slice hsized (j := 0) (t := 22) (e := 5) (elems := elems) (spare := sp) rfl (by rw [hd]; rfl) Try.underlying22
      have hb : Try.prog.bytesOf 5 = 1 := by kernel_rfl
      rw [hb] at h1
      unfold reachBytes at h1
      omega
  clear hA0 hval0
  refine (wireUints_any v0 l W hS hlen hl).mono fun e W' ⟨he, hk⟩ => ?_
  have bel : Below W.heap.size W W' := hk.below (Nat.le_refl _) (fun _ _ h => h)
  subst he
  exact ⟨_, rfl, _, _, _, [], _, [], hW', trodAll_mk1 (shut_bool Try.underlying4 _), (trodAll_cons_mk (Below.trod laidOut (by kernel_rfl) (of_decide_eq_true (by kernel_rfl)) k0 bel lt0) trodAll_mk0), rfl, bel.frame _, fun h => by cases h⟩

theorem over : Rows.wireUintsRow.holds Try.pinned (OpenSpec.ofChange Rows.wireUintsSpec) :=
  OpenClaim.holds_of_wide 3 Try.f3 rfl rfl rfl rfl rfl rfl rfl ⟨rfl, rfl, rfl, rfl, rfl⟩ rfl rfl rfl rfl rfl (by kernel_rfl) Try.func3 (by kernel_rfl)
    (of_decide_eq_true (by kernel_rfl)) (by unfold Func.isWrapper; first | (rw [if_pos (by decide +kernel)]; kernel_rfl) | (rw [if_neg (by decide +kernel)]; exact ⟨rfl, rfl⟩))
    (fun os started H enc _ => lifted os started H enc)
theorem proved : Rows.WireUintsSaid := over
end Go.Proofs.Ytlebocjcelbbpaa.wireUints
