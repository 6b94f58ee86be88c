/- Frame: a frame that moved the ladder does not move it again. -/
import Derived.Test.YthoikljmokkchaaDoorFrPA
namespace Go.Proofs.YthoikljmokkchaaDoor
open Go.RowKit
theorem recv2_l (r : Rv) (l : Ld) (f : Fr) : (recv2 r l f).1.l = l := by
  unfold recv2 delivM
  repeat (first | rfl | split)
theorem recvM_moved {r : Rv} {f : Fr} (h2 : (recvM r f).2.2 ≠ 2) (h8 : (recvM r f).2.2 ≠ 8) (h30 : (recvM r f).2.2 ≠ 30) : f.b.length ≤ 512 ∧ f.k < (recvM r f).1.l.i := by
  unfold recvM at h2 h8 h30 ⊢
  by_cases hb : 512 < f.b.length
  · rw [if_pos hb] at h2; exact absurd rfl h2
  · rw [if_neg hb] at h2 h8 h30 ⊢
    refine ⟨by omega, ?_⟩
    by_cases hk : f.k < r.l.i ∨ r.l.i + 4096 < f.k
    · rw [accept_key _ _ hk] at h30; simp at h30
    · by_cases ht : tagN (iterN (f.k - r.l.i).toNat r.l.k) (covL f) = f.t
      · rw [accept_ok hk ht]; simp only [ne_eq, not_true_eq_false, if_false]
        rw [recv2_l]; show f.k < f.k + 1; omega
      · rw [accept_sum hk ht] at h8; simp at h8
theorem recvM_li (r : Rv) (f : Fr) : r.l.i ≤ (recvM r f).1.l.i := by
  unfold recvM
  split
  · exact Int.le_refl _
  · by_cases hk : f.k < r.l.i ∨ r.l.i + 4096 < f.k
    · rw [accept_key _ _ hk]; simp
    · by_cases ht : tagN (iterN (f.k - r.l.i).toNat r.l.k) (covL f) = f.t
      · rw [accept_ok hk ht]; simp only [ne_eq, not_true_eq_false, if_false]
        rw [recv2_l]; show r.l.i ≤ f.k + 1; omega
      · rw [accept_sum hk ht]; simp
theorem recvM_again {r : Rv} {p : Fr} (hk : p.k < r.l.i) (hb : p.b.length ≤ 512) : recvM r p = (r, [], 30) := by
  unfold recvM
  rw [if_neg (by omega), accept_key _ _ (.inl hk), if_pos (by simp)]
end Go.Proofs.YthoikljmokkchaaDoor
