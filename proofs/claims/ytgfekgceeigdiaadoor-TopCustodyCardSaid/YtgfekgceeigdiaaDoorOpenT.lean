/- A slice of arrays of numbers that came in, opened. -/
import Derived.Test.YtgfekgceeigdiaaDoorOpenAll
import Derived.Test.YtgfekgceeigdiaaDoorTopLast
import Derived.Deep.Slices
import Derived.ChangeSame
namespace Go.Proofs.YtgfekgceeigdiaaDoor
open Go.ChangeShapes Go.WideShapes Go.RowKit Go.Deep
section
variable {H : Type} {enc : TypeId × Value → H} {w : World} {base : Nat} {spare : Nat → Bool} {held : Bool}
theorem open_arrT {s : Nat} {t e i : TypeId} (hs : 0 < s) (ht : Tryd.prog.underlying t = some (.slice e)) (he : Tryd.prog.underlying e = some (.array s i)) (hi : Tryd.prog.underlying i = some (.int .i64)) (hci : Tryd.prog.cellsOf i = 1) (hce : Tryd.prog.cellsOf e = s)
    {v : Value} {d : DataW H} {ps : List MemPlace} (hv : ∃ a len cap, v = .slice a len cap) (h : DataW.Trod enc Tryd.prog w base spare held t v d ps) :
    ∃ n : Nat, ArrT s (fun b => b < w.heap.size) w v n := by
  obtain ⟨a0, len0, cap0, rfl⟩ := hv
  obtain ⟨fuel, hf⟩ := h
  rcases open_slice ht hf with h0 | ⟨a, len, cap, m, n, D, Pl, hcs, hb, hl, hm, hmm, hx, hi'⟩
  · have h0 := h0.1
    simp [Value.cells] at h0
    obtain ⟨rfl, rfl, rfl⟩ := h0
    exact ⟨0, none, 0, rfl, Nat.le_refl _, by simp [maxLen], fun k hk => by omega⟩
  · simp [Value.cells] at hcs
    obtain ⟨rfl, rfl, rfl⟩ := hcs
    have hlm : len0 ≤ m := by rw [hmm]; split <;> omega
    have key : ∀ k, k < len0 → ∀ j, j < s → ∃ z : Int, w.cell? (a.add (k * s + j)) = some (.int .i64 z) ∧ -9223372036854775808 ≤ z ∧ z ≤ 9223372036854775807 := by
      intro k hk j hj
      obtain ⟨cs', hc, ht'⟩ := hi' k (by omega)
      rw [hce] at hc
      obtain ⟨xs, n', _, _, hlen, hxl, hat⟩ := DataW.trod_array he ht'
      rw [hce] at hlen
      obtain ⟨_, hcl, hcat⟩ := World.cells?_some hc
      have h1 := hat j hj
      rw [hci, Nat.mul_one] at h1
      have e1 : (cs'.drop j).take 1 = [cs'[j]'(by omega)] := by
        rw [List.drop_eq_getElem_cons (by omega)]; rfl
      rw [e1, List.getElem?_eq_getElem (show j < xs.length by omega)] at h1
      obtain ⟨z, hz, _, hwf⟩ := DataW.trod_int hi h1
      simp at hz
      refine ⟨z, ?_, i64_of_wf hwf⟩
      have h2 := hcat j hj
      rw [Go.Deep.add_add] at h2
      rw [h2, List.getElem?_eq_getElem (show j < cs'.length by omega)]
      exact congrArg some hz
    refine ⟨len0, some a, cap0, rfl, by omega, hm, fun k hk => ?_⟩
    obtain ⟨b, o, sp⟩ := a
    obtain ⟨z9, h9, _⟩ := key 0 (by omega) 0 hs
    obtain ⟨z0, h0, _⟩ := key k hk 0 hs
    have hsp : sp = none := by simpa [Addr.add] using World.cell?_spot h9
    subst hsp
    have ad : ∀ k, (⟨b, o, none⟩ : Addr).add k = ⟨b, o + k, none⟩ := fun k => by unfold Addr.add; split <;> simp_all
    rw [ad] at h0
    refine ⟨b, o, rfl, cell_lt h0, cell_lt h0, fun j hj => ?_⟩
    obtain ⟨z, h1, h2⟩ := key k hk j hj
    rw [ad, ← Nat.add_assoc] at h1
    exact ⟨z, h1, h2⟩
end
end Go.Proofs.YtgfekgceeigdiaaDoor
