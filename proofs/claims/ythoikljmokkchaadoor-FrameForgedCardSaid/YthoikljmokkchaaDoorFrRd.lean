/- Frame: decoding what was encoded. -/
import Derived.Test.YthoikljmokkchaaDoorFrDd
import Derived.Test.YthoikljmokkchaaDoorCrcAll
import Derived.Test.YthoikljmokkchaaDoorWireAll
namespace Go.Proofs.YthoikljmokkchaaDoor
open Go.RowKit
attribute [local go_sem ↓] Go.wp_at_zero Go.wp_at_succ
theorem encF_lt2 {f : Fr} (h : f.ok) : ∀ c ∈ encF f, c < 256 := by
  unfold encF
  exact Cr.seal_lt (fun c hc => by
    rcases List.mem_append.1 hc with hc | hc
    · exact covL_lt h c hc
    · exact Wi.enc_lt _ _ hc)
def backF (f : Fr) : Fr := ⟨(modN f.q : Nat), f.k, f.u, f.b, f.t⟩
theorem dec_enc {f : Fr} (h : f.ok) : decM (encF f) = if f.k < 0 then (nilF, 5) else if 512 < f.b.length then (nilF, 2) else (backF f, 0) := by
  unfold decM encF
  rw [Cr.opened_seal]
  simp only [if_true]
  have hb : covL f ++ Wi.enc f.t = Wi.enc (modN f.q) ++ (Wi.encI f.k ++ (Wi.enc (unl f.u) ++ (Wi.enc f.b.length ++ (f.b ++ Wi.enc f.t)))) := by
    unfold covL Wi.encB; simp only [List.append_assoc]
  rw [hb]
  generalize hR3 : Wi.enc f.b.length ++ (f.b ++ Wi.enc f.t) = R3
  generalize hR2 : Wi.enc (unl f.u) ++ R3 = R2
  generalize hR1 : Wi.encI f.k ++ R2 = R1
  generalize hB : Wi.enc (modN f.q) ++ R1 = B
  have hm := modN_lt f.q
  have hu := unl_lt f.u
  have e1 : d1 B = ((0, R1), modN f.q) := by unfold d1; rw [← hB]; exact Wi.sU_enc R1 (by omega)
  have e2 : d2 B = (0, R1) := by unfold d2; rw [e1]; unfold chk; rw [if_pos (decide_eq_true hm)]
  have e3 : d3 B = ((0, R2), f.k) := by unfold d3; rw [e2, ← hR1]; exact Wi.sI_enc R2 h.k0 h.k1
  by_cases hk : f.k < 0
  · rw [if_pos hk]
    have e4 : d4 B = (5, R2) := by unfold d4; rw [e3]; unfold chk; rw [if_neg (by simp; omega)]; rfl
    have e5 : d5 B = ((5, R2), 0) := by unfold d5; rw [e4]; exact Wi.sU_err (by show ¬ ((5 : Int) = 0); decide)
    have e6 : d6 B = (5, R2) := by unfold d6; rw [e5]; rfl
    have e7 : d7 B = ((5, R2), []) := by unfold d7; rw [e6]; exact Wi.sB_err 512 (by show ¬ ((5 : Int) = 0); decide)
    have e8 : d8 B = ((5, R2), 0) := by unfold d8; rw [e7]; exact Wi.sU_err (by show ¬ ((5 : Int) = 0); decide)
    have e9 : d9 B = 5 := by unfold d9; rw [e8]; unfold Wi.sEnd; rw [if_neg (fun h => absurd h.1 (by show ¬ ((5 : Int) = 0); decide))]
    unfold decB
    rw [e9, if_neg (by decide)]
  · rw [if_neg hk]
    have e4 : d4 B = (0, R2) := by unfold d4; rw [e3]; unfold chk; rw [if_pos (decide_eq_true (by show 0 ≤ f.k; omega))]
    have e5 : d5 B = ((0, R3), unl f.u) := by unfold d5; rw [e4, ← hR2]; exact Wi.sU_enc R3 (by omega)
    have e6 : d6 B = (0, R3) := by unfold d6; rw [e5]; unfold chk; rw [if_pos (decide_eq_true hu)]
    have hn := h.n
    have es : Wi.sU (0, R3) = ((0, f.b ++ Wi.enc f.t), f.b.length) := by rw [← hR3]; exact Wi.sU_enc _ (by omega)
    by_cases hl : 512 < f.b.length
    · rw [if_pos hl]
      have ez : Wi.sSize 512 (0, R3) = ((2, f.b ++ Wi.enc f.t), 0) := by
        unfold Wi.sSize; rw [es]; rw [if_pos rfl, if_pos (.inr (by show (512 : Int) < (f.b.length : Int); omega))]
      have e7 : d7 B = ((2, f.b ++ Wi.enc f.t), []) := by
        unfold d7; rw [e6]; unfold Wi.sB; rw [ez]; rw [if_neg (by show ¬ ((2 : Int) = 0); decide)]
      have e8 : d8 B = ((2, f.b ++ Wi.enc f.t), 0) := by unfold d8; rw [e7]; exact Wi.sU_err (by show ¬ ((2 : Int) = 0); decide)
      have e9 : d9 B = 2 := by unfold d9; rw [e8]; unfold Wi.sEnd; rw [if_neg (fun h => absurd h.1 (by show ¬ ((2 : Int) = 0); decide))]
      unfold decB
      rw [e9, if_neg (by decide)]
    · rw [if_neg hl]
      have ez : Wi.sSize 512 (0, R3) = ((0, f.b ++ Wi.enc f.t), f.b.length) := by
        unfold Wi.sSize; rw [es]; rw [if_pos rfl, if_neg (by show ¬ ((512 : Int) < 0 ∨ (512 : Int) < (f.b.length : Int)); omega)]
      have e7 : d7 B = ((0, Wi.enc f.t), f.b) := by
        unfold d7; rw [e6]; unfold Wi.sB; rw [ez]
        rw [if_pos rfl, if_neg (by show ¬ (f.b ++ Wi.enc f.t).length < f.b.length; rw [List.length_append]; omega)]
        simp
      have e8 : d8 B = ((0, []), f.t) := by
        unfold d8; rw [e7]
        have := Wi.sU_enc [] (n := f.t) (by have := h.t; omega)
        rw [List.append_nil] at this; exact this
      have e9 : d9 B = 0 := by unfold d9; rw [e8]; rfl
      unfold decB
      rw [e9, if_pos rfl, e1, e3, e5, e7, e8]
      have hu1 : decide (unl f.u = 1) = f.u := by unfold unl; cases f.u <;> rfl
      simp only [hu1]; rfl
end Go.Proofs.YthoikljmokkchaaDoor
