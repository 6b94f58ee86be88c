/- A list of lists of booleans that came in, opened. -/
import Derived.Test.YtgeicbjlichdgaaDoorFileY
import Derived.Deep.Grids
import Derived.Test.YtgeicbjlichdgaaDoorOpen
namespace Go.Proofs.YtgeicbjlichdgaaDoor
open Go.ChangeShapes Go.WideShapes Go.ChangeAt Go.RowKit
theorem addr_add {a : Addr} (h : a.spot = none) (j : Nat) : a.add j = ⟨a.block, a.off + j, none⟩ := by
  obtain ⟨b, o, sp⟩ := a
  simp at h; subst h
  unfold Addr.add; split <;> simp_all
theorem row_open {w : World} {a : Option Addr} {n c : Nat} {xs : List Value} (hx : xs.length = n) (hl : n ≤ c) (hm : c ≤ maxLen) (hz : a = none → c = 0) (hc : ∀ a', a = some a' → ∀ j, j < n → w.cell? (a'.add j) = some (xs.getD j undef)) : Row (fun b => b < w.heap.size) w 1 (.slice a n c) n xs := by
  refine ⟨by omega, ?_⟩
  cases a with
  | none =>
    have := hz rfl; subst this
    obtain rfl : n = 0 := by omega
    exact .inl ⟨rfl, rfl⟩
  | some a =>
    refine .inr ⟨a, c, rfl, hl, hm, fun hn => ?_⟩
    have h1 := hc a rfl 0 hn
    have hsp : a.spot = none := by
      have := World.cell?_spot h1
      simpa [Addr.add] using this
    have e := hc a rfl
    obtain ⟨b, o, sp⟩ := a
    simp at hsp; subst hsp
    have h2 : w.cell? ⟨b, o, none⟩ = some (xs.getD 0 undef) := by simpa [Addr.add] using h1
    refine ⟨b, o, rfl, cell_lt h2, cell_lt h2, fun j hj => ?_⟩
    have h3 := e j (by omega)
    rw [addr_add rfl] at h3
    exact h3
section
variable {H : Type} {enc : TypeId × Value → H} {w : World} {base : Nat} {held : Bool}
set_option maxRecDepth 100000 in
theorem open_bools2 {v : Value} {d : DataW H} {ps : List MemPlace} (hv : ∃ a len cap, v = .slice a len cap) (h : DataW.Trod enc Tryd.prog w base (fun _ => true) held 57 v d ps) :
    ∃ ls : List (List Bool), Bss (fun b => b < w.heap.size) w v ls ∧ True := by
  obtain ⟨a0, len0, cap0, rfl⟩ := hv
  obtain ⟨fuel, hf⟩ := h
  rcases Go.Deep.open_bool_rows Tryd.underlying57 Tryd.underlying50 Tryd.underlying4 (by kernel_rfl) (by kernel_rfl) hf with ⟨h0, _⟩ | ⟨a, len, cap, A, L, C, B, hcs, hb, hl, hm, hx, hi⟩
  · simp [Value.cells] at h0
    obtain ⟨rfl, rfl, rfl⟩ := h0
    exact ⟨[], ⟨[], ⟨rfl, .inl ⟨rfl, rfl⟩⟩, rfl, fun i l h => by simp at h⟩, trivial⟩
  · simp [Value.cells] at hcs
    obtain ⟨rfl, rfl, rfl⟩ := hcs
    refine ⟨(List.range len0).map (fun r => (List.range (L r)).map (B r)), ⟨(List.range len0).map (fun r => .slice (A r) (L r) (C r)), ?_, by simp, fun i l hil => ?_⟩, trivial⟩
    · rw [List.length_map, List.length_range]
      refine row_open (by simp) hl hm (fun h => by cases h) (fun a' ha' j hj => ?_)
      injection ha' with ha'; subst ha'
      rw [(hi j (by omega)).1]
      simp [List.getD, hj]
    · have hik : i < len0 := by have := (List.getElem?_eq_some_iff.1 hil).1; simpa using this
      obtain rfl : (List.range (L i)).map (B i) = l := by simpa [hik] using hil
      obtain ⟨h1, h2, h3, h4, h5⟩ := hi i (by omega)
      have e : ((List.range len0).map (fun r => Value.slice (A r) (L r) (C r))).getD i undef = .slice (A i) (L i) (C i) := by simp [List.getD, hik]
      rw [e, List.length_map, List.length_range]
      refine row_open (by simp [bls]) h2 h3 h4 (fun a' ha' j hj => ?_)
      rw [(h5 a' ha').2 j (by omega)]
      simp [bls, List.getD, hj]
end
end Go.Proofs.YtgeicbjlichdgaaDoor
