/- What Open hands back: plain laws. -/
import Derived.Test.YtgeicbjlichdgaaDoorCrcO
namespace Go.Proofs.YtgeicbjlichdgaaDoor.Cr
theorem opened_seal (l : List Nat) : opened (seal_ l) = (l, 0) := by
  have h4 : ¬ (seal_ l).length < 4 := by simp [seal_, le4]
  have e : (seal_ l).length - 4 = l.length := by simp [seal_, le4]
  have e1 : (seal_ l).take ((seal_ l).length - 4) = l := by rw [e]; unfold seal_; simp
  have e2 : (seal_ l).drop ((seal_ l).length - 4) = le4 (crc l) := by rw [e]; unfold seal_; simp
  rw [opened_yes h4 (by rw [e1, e2]), e1]
theorem opened_lt {l : List Nat} (hl : ∀ c ∈ l, c < 256) : ∀ c ∈ (opened l).1, c < 256 := by
  unfold opened
  intro c hc
  split at hc
  · simp at hc
  · split at hc
    · exact hl c (List.mem_of_mem_take hc)
    · simp at hc
end Go.Proofs.YtgeicbjlichdgaaDoor.Cr
