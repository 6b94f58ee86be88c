/- The walks of the reference's reader (package perigeeref02): lists, the end. -/
import Derived.Test.YthoikljmokkchaaDoorWireH
namespace Go.Proofs.YthoikljmokkchaaDoor.Wi
open Go.RowKit

def VLPost (K : Nat → Prop) (w : World) (most : Int) (s : St) (r : Ending) (w' : World) : Prop :=
  ∃ v a n c, r = .returned (.tuple #[v, .slice a n c]) ∧ n = (sL most s).2.length ∧ Sl (fun k => w.heap.size ≤ k) w' (.slice a n c) (i64s (sL most s).2) ∧ RV K w' v (sL most s).1 ∧ Keeps (fun _ => False) w w'
set_option maxRecDepth 100000 in set_option maxHeartbeats 400000 in
theorem VEnd_any (K : Nat → Prop) (v : Value) (s : St) (w : World) (h : RV K w v s) :
    Calls Tryd.prog 93 #[v] w fun e w' => e = .returned (.int .i64 (sEnd s)) ∧ Keeps (fun _ => False) w w' := by
  obtain ⟨bv, l, rfl, h1, h2, h3, h4⟩ := h
  obtain ⟨a, c, rfl, _⟩ := h1.bytes
  obtain ⟨e0, l0⟩ := s
  simp only at h4 ⊢
  clear h1
  by_cases he : e0 = 0
  · subst he
    have hl := h4 rfl
    subst hl
    clear h4
    have HF : Hd (sEnd (0, l0) = if 0 < l0.length then 7 else 0) := hid (by simp [sEnd])
    generalize l0.length = m at *
    by_cases hm : 0 < m
    · rw [if_pos hm] at HF
      have hm1 : (0 : Int) < (m : Int) := by omega
      go_enter Tryd.func93, Tryd.ntmps93
      go_wp2
      go_ret
      exact ⟨ret_int HF.out.symm, (by repeat (first | (with_reducible assumption) | (with_reducible exact Keeps.refl _ _) | (with_reducible apply Keeps.drewN) | (with_reducible apply Keeps.drew) | (with_reducible apply Keeps.alloc) | refine Keeps.setCell ?_ (by first | (simp; done) | (simp; omega)) _))⟩
    · rw [if_neg hm] at HF
      obtain rfl : m = 0 := by omega
      go_enter Tryd.func93, Tryd.ntmps93
      go_wp2
      go_ret
      exact ⟨ret_int HF.out.symm, (by repeat (first | (with_reducible assumption) | (with_reducible exact Keeps.refl _ _) | (with_reducible apply Keeps.drewN) | (with_reducible apply Keeps.drew) | (with_reducible apply Keeps.alloc) | refine Keeps.setCell ?_ (by first | (simp; done) | (simp; omega)) _))⟩
  · have HF : Hd (sEnd (e0, l0) = e0) := hid (by simp [sEnd, he])
    have t1 : (e0 == 0) = false := by simp; exact he
    clear he h4
    go_enter Tryd.func93, Tryd.ntmps93
    go_wp2
    go_ret
    exact ⟨ret_int HF.out.symm, (by repeat (first | (with_reducible assumption) | (with_reducible exact Keeps.refl _ _) | (with_reducible apply Keeps.drewN) | (with_reducible apply Keeps.drew) | (with_reducible apply Keeps.alloc) | refine Keeps.setCell ?_ (by first | (simp; done) | (simp; omega)) _))⟩
end Go.Proofs.YthoikljmokkchaaDoor.Wi
