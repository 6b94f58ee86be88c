/- The walks of the reference's Seal and Open; strings of bytes. -/
import Derived.Test.YtgeicbjlichdgaaDoorCrcC
import Derived.Laws.IdiomStrings
namespace Go.Proofs.YtgeicbjlichdgaaDoor.Cr
open Go.RowKit
attribute [local go_sem ↓] Go.wp_at_zero Go.wp_at_succ

/-- bytes as a string -/
def str (l : List Nat) : ByteArray := ⟨(l.map UInt8.ofNat).toArray⟩
theorem str_inj {a b : List Nat} (ha : ∀ c ∈ a, c < 256) (hb : ∀ c ∈ b, c < 256) (h : str a = str b) : a = b := by
  have h1 : a.map UInt8.ofNat = b.map UInt8.ofNat := by
    have := congrArg (fun s : ByteArray => s.data.toList) h
    simpa [str] using this
  have h2 : (a.map UInt8.ofNat).map UInt8.toNat = (b.map UInt8.ofNat).map UInt8.toNat := by rw [h1]
  have e : ∀ l : List Nat, (∀ c ∈ l, c < 256) → (l.map UInt8.ofNat).map UInt8.toNat = l := fun l hl => by
    rw [List.map_map]
    conv => rhs; rw [← List.map_id l]
    refine List.map_congr_left fun n hn => ?_
    have := hl n hn
    simp [Function.comp]; omega
  rw [e a ha, e b hb] at h2
  exact h2
/-- string(b) -/
theorem conv_sl {K : Nat → Prop} {w : World} {v : Value} {l : List Nat} (h : Sl K w v (u8s l)) (hl : ∀ c ∈ l, c < 256) : (convert 22 9 v).run Tryd.prog w = .ok (.string (str l)) w := by
  obtain ⟨a, cap, rfl, _, _, hx⟩ := h.bytes
  rcases Nat.eq_zero_or_pos l.length with h0 | h0
  · obtain rfl := List.eq_nil_of_length_eq_zero h0
    cases a with
    | none =>
      rw [run_convert_bytes_string w _ _ 5 none _ _ Tryd.underlying22 Tryd.underlying5 Tryd.underlying9]
      simp [Conv.bytesToString, str, Sem.run_pure]; rfl
    | some x =>
      exact run_convert_bytes_back w _ _ 5 x cap [] Tryd.underlying22 Tryd.underlying5 Tryd.underlying9 (fun j hj => by simp at hj)
  · obtain ⟨b, o, rfl, _, _, hc⟩ := hx h0
    have := run_convert_bytes_back w 22 9 5 ⟨b, o, none⟩ cap (l.map UInt8.ofNat) Tryd.underlying22 Tryd.underlying5 Tryd.underlying9 (fun j hj => by
      have hj' : j < l.length := by simpa using hj
      have h1 := hc j hj'
      rw [show (⟨b, o, none⟩ : Addr).add j = ⟨b, o + j, none⟩ by unfold Addr.add; split <;> simp_all, h1]
      have h2 := hl _ (List.getElem_mem hj')
      simp [List.getD, hj']
      omega)
    simpa [str] using this
end Go.Proofs.YtgeicbjlichdgaaDoor.Cr
