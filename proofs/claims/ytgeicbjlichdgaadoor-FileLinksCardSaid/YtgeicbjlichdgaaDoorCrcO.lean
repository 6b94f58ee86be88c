/- The walk of the law CrcResidue. -/
import Derived.Test.YtgeicbjlichdgaaDoorCrcM
namespace Go.Proofs.YtgeicbjlichdgaaDoor.Cr
open Go.RowKit
attribute [local go_sem ↓] Go.wp_at_zero Go.wp_at_succ
theorem crc_seal {l : List Nat} (hl : ∀ c ∈ l, c < 256) : crc (seal_ l) = 558161692 := (sealed_iff hl (le4_lt _) rfl).mpr rfl
theorem seal_lt {l : List Nat} (hl : ∀ c ∈ l, c < 256) : ∀ c ∈ seal_ l, c < 256 := fun c hc => by
  unfold seal_ at hc
  rcases List.mem_append.mp hc with h | h
  · exact hl c h
  · exact le4_lt _ c h
theorem opened_res {l : List Nat} (hl : ∀ c ∈ l, c < 256) (h4 : ¬ l.length < 4) : ((opened l).2 = 0 ∧ crc l = 558161692) ∨ ((opened l).2 = 8 ∧ crc l ≠ 558161692) := by
  have h := sealed_iff (l := l.take (l.length - 4)) (t := l.drop (l.length - 4)) (fun c hc => hl c (List.mem_of_mem_take hc)) (fun c hc => hl c (List.mem_of_mem_drop hc)) (by rw [List.length_drop]; omega)
  rw [List.take_append_drop] at h
  by_cases hq : le4 (crc (l.take (l.length - 4))) = l.drop (l.length - 4)
  · left; exact ⟨by rw [opened_yes h4 hq], h.mpr hq.symm⟩
  · right; exact ⟨by rw [opened_no h4 hq], fun hc => hq (h.mp hc).symm⟩
end Go.Proofs.YtgeicbjlichdgaaDoor.Cr
