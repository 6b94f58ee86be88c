/- Arguments, read as data, opened. -/
import Derived.Test.YthoikljmokkchaaDoorRows
import Derived.Test.YthoikljmokkchaaDoorBase
import Derived.ProofKit
import Derived.OpenShut
import Derived.ChangeOld
import Derived.Below
namespace Go.Proofs.YthoikljmokkchaaDoor
open Go.ChangeShapes Go.WideShapes Go.ChangeAt Go.RowKit

theorem u8_of_wf {n : Int} (h : (Lit.int .u8 n).wf = true) : 0 ≤ n ∧ n < 256 := by
  have : 0 ≤ n ∧ n ≤ 255 := by simpa [Lit.wf, IntKind.min, IntKind.max, IntKind.signed, IntKind.bits] using h
  omega
theorem i64_of_wf {n : Int} (h : (Lit.int .i64 n).wf = true) : -9223372036854775808 ≤ n ∧ n ≤ 9223372036854775807 := by
  simpa [Lit.wf, IntKind.min, IntKind.max, IntKind.signed, IntKind.bits] using h
/-- the cells of a slice of integers that came in -/
theorem sl_open {k : IntKind} {w : World} {a : Addr} {len cap : Nat} {zs : List Int} (hl : len ≤ cap) (hm : cap ≤ maxLen) (hz : len ≤ zs.length) (hc : ∀ i, i < zs.length → w.cell? (a.add i) = some (.int k (zs.getD i 0))) :
    Sl (fun b => b < w.heap.size) w (.slice (some a) len cap) ((zs.take len).map (Value.int k)) := by
  have h0 : ((zs.take len).map (Value.int k)).length = len := by simp; omega
  refine ⟨by rw [h0]; omega, .inr ⟨a, cap, by rw [h0], by rw [h0]; exact hl, hm, fun hn => ?_⟩⟩
  rw [h0] at hn ⊢
  obtain ⟨b, o, sp⟩ := a
  have h1 := hc 0 (by omega)
  have hsp : sp = none := by simpa [Addr.add] using World.cell?_spot h1
  subst hsp
  have h2 : w.cell? ⟨b, o, none⟩ = some (.int k (zs.getD 0 0)) := by simpa [Addr.add] using h1
  refine ⟨b, o, rfl, cell_lt h2, cell_lt h2, fun j hj => ?_⟩
  have h3 := hc j (by omega)
  have hj2 : j < len := by omega
  rw [show (⟨b, o, none⟩ : Addr).add j = ⟨b, o + j, none⟩ by unfold Addr.add; split <;> simp_all] at h3
  rw [h3]
  simp [List.getD, hj2, show j < zs.length by omega]
section
variable {H : Type} {enc : TypeId × Value → H} {P : Program} {w : World} {base : Nat} {spare : Nat → Bool} {held : Bool}
theorem open_slice_c {k : IntKind} {t e : TypeId} {v : Value} {fuel : Nat} {x : DataW H × List MemPlace} (ht : P.underlying t = some (.slice e)) (he : P.underlying e = some (.int k)) (hc : P.cellsOf e = 1)
    (hf : DataW.trod enc P w base spare held fuel t [v] = some x) :
    ∃ l : List Int, Sl (fun b => b < w.heap.size) w v (l.map (Value.int k)) ∧ (∀ n ∈ l, (Lit.int k n).wf = true) ∧ ((x.1 = .nil ∧ l = []) ∨ ∃ elems sp, x.1 = .slice elems sp ∧ elems.length = l.length) := by
  rcases open_ints ht he hc hf with ⟨hcs, hx⟩ | ⟨y, l, c, zs, hcs, _, hl, hm, hz, hx, hcell, hwz⟩
  · simp at hcs
    subst hcs
    subst hx
    exact ⟨[], Sl.nil _ _, by simp, .inl ⟨rfl, rfl⟩⟩
  · simp at hcs
    subst hcs
    subst hx
    have hlz : l ≤ zs.length := by rw [hz]; split <;> omega
    exact ⟨zs.take l, sl_open hl hm hlz hcell, fun n hn => hwz n (List.mem_of_mem_take hn), .inr ⟨_, _, rfl, by simp [lits]⟩⟩
theorem u8_list {l : List Int} {w : World} {v : Value} {K : Nat → Prop} (h1 : Sl K w v (l.map (Value.int .u8))) (h2 : ∀ n ∈ l, (Lit.int .u8 n).wf = true) : Sl K w v (u8s (l.map Int.toNat)) ∧ ∀ c ∈ l.map Int.toNat, c < 256 := by
  refine ⟨?_, fun c hc => ?_⟩
  · have : u8s (l.map Int.toNat) = l.map (Value.int .u8) := by
      simp only [u8s, List.map_map]
      refine List.map_congr_left fun n hn => ?_
      have := u8_of_wf (h2 n hn)
      simp only [Function.comp]
      rw [Int.toNat_of_nonneg this.1]
    rw [this]; exact h1
  · obtain ⟨n, hn, rfl⟩ := List.mem_map.1 hc
    have := u8_of_wf (h2 n hn)
    omega
end
end Go.Proofs.YthoikljmokkchaaDoor
