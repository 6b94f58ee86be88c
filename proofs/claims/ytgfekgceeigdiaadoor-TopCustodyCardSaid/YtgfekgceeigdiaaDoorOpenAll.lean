/- Custody: CrcLaid, CrcNat, Open: walks and plain facts. -/
import Derived.Test.YtgfekgceeigdiaaDoorCrcAll
import Derived.Test.YtgfekgceeigdiaaDoorCards
import Derived.Test.YtgfekgceeigdiaaDoorTie
import Derived.WalkKit
import Derived.ProofKit
import Derived.OpenShut
import Derived.Deep.DeepHandedRow
import Derived.Lib.LaidTab
import Derived.Test.YtgfekgceeigdiaaDoorBaseAll
import Derived.Test.YtgfekgceeigdiaaDoorRows
import Derived.ChangeOld
import Derived.Below
namespace Go.Proofs.YtgfekgceeigdiaaDoor.Cr
open Go.ChangeShapes Go.WideShapes Go.ChangeAt Go.RowKit
theorem lown : ownKnob Tryd.prog.godebug = none := by kernel_rfl
theorem llaidOut : laidOutB Tryd.prog = true := by kernel_rfl
theorem gNib : Tryd.prog.globalNamed "perigee/crc.nibbles" = some 0 := by kernel_rfl
theorem gNibType : (Tryd.prog.globals[0]?).map (·.type) = some 134 := by kernel_rfl
theorem cellsNib : Tryd.prog.cellsOf 134 = 16 := by kernel_rfl
theorem cellsU32 : Tryd.prog.cellsOf 37 = 1 := by kernel_rfl
abbrev laidList : List (String × DataW Unit) := [("perigee/crc.nibbles", Rows.laid_perigee_crc_nibbles)]
def nibInts : List Int := [0, 498536548, 997073096, 651767980, 1994146192, 1802195444, 1303535960, 1342533948, 3988292384, 4027552580, 3604390888, 3412177804, 2607071920, 2262029012, 2685067896, 3183342108]
theorem nibTable {W : World} (h : laidMetH Tryd.prog laidList W) : Lib.TabIs Tryd.prog W "perigee/crc.nibbles" .u32 nibInts :=
  Lib.tabIs_of_head (rest := []) gNib gNibType Tryd.underlying134 Tryd.underlying37 cellsU32 cellsNib h
theorem nib_laid {W : World} (h : laidMetH Tryd.prog laidList W) : Nib W := by
  intro j hj
  have := (nibTable h).cell gNib j (by show j < 16; exact hj)
  rw [this]
  congr 2
  have e : ∀ i, i < 16 → nibInts.getD i 0 = ((nib i : Nat) : Int) := by decide
  exact e j hj
noncomputable def laidWorld (os : Os) : World :=
  { World.holding Tryd.prog os ⟨#[], #[], []⟩ with heap := (World.holding Tryd.prog os ⟨#[], #[], []⟩).heap.modify 0 fun
      | .cells _ t frozen => .cells (nibInts.map fun z => Value.int .u32 z).toArray t frozen
      | o => o }
end Go.Proofs.YtgfekgceeigdiaaDoor.Cr
namespace Go.Proofs.YtgfekgceeigdiaaDoor.Cr
theorem nat_u8 {n : Int} (h : (Lit.int .u8 n).wf = true) : ∃ k : Nat, n = (k : Int) ∧ k < 256 := by
  have : 0 ≤ n ∧ n ≤ 255 := by simpa [Lit.wf, IntKind.min, IntKind.max, IntKind.signed, IntKind.bits] using h
  exact ⟨n.toNat, by omega, by omega⟩
end Go.Proofs.YtgfekgceeigdiaaDoor.Cr
namespace Go.Proofs.YtgfekgceeigdiaaDoor
open Go.ChangeShapes Go.WideShapes Go.ChangeAt Go.RowKit

theorem u8_of_wf {n : Int} (h : (Lit.int .u8 n).wf = true) : 0 ≤ n ∧ n < 256 := by
  have : 0 ≤ n ∧ n ≤ 255 := by simpa [Lit.wf, IntKind.min, IntKind.max, IntKind.signed, IntKind.bits] using h
  omega
theorem i64_of_wf {n : Int} (h : (Lit.int .i64 n).wf = true) : -9223372036854775808 ≤ n ∧ n ≤ 9223372036854775807 := by
  simpa [Lit.wf, IntKind.min, IntKind.max, IntKind.signed, IntKind.bits] using h
/-- the cells of a slice of integers that came in -/
theorem sl_open {k : IntKind} {w : World} {a : Addr} {len cap : Nat} {zs : List Int} (hl : len ≤ cap) (hm : cap ≤ maxLen) (hz : len ≤ zs.length) (hc : ∀ i, i < zs.length → w.cell? (a.add i) = some (.int k (zs.getD i 0))) :
    Sl (fun b => b < w.heap.size) w (.slice (some a) len cap) ((zs.take len).map (Value.int k)) := by
  have h0 : ((zs.take len).map (Value.int k)).length = len := by simp; omega
  refine ⟨by rw [h0]; omega, .inr ⟨a, cap, by rw [h0], by rw [h0]; exact hl, hm, fun hn => ?_⟩⟩
  rw [h0] at hn ⊢
  obtain ⟨b, o, sp⟩ := a
  have h1 := hc 0 (by omega)
  have hsp : sp = none := by simpa [Addr.add] using World.cell?_spot h1
  subst hsp
  have h2 : w.cell? ⟨b, o, none⟩ = some (.int k (zs.getD 0 0)) := by simpa [Addr.add] using h1
  refine ⟨b, o, rfl, cell_lt h2, cell_lt h2, fun j hj => ?_⟩
  have h3 := hc j (by omega)
  have hj2 : j < len := by omega
  rw [show (⟨b, o, none⟩ : Addr).add j = ⟨b, o + j, none⟩ by unfold Addr.add; split <;> simp_all] at h3
  rw [h3]
  simp [List.getD, hj2, show j < zs.length by omega]
section
variable {H : Type} {enc : TypeId × Value → H} {P : Program} {w : World} {base : Nat} {spare : Nat → Bool} {held : Bool}
theorem open_slice_k {k : IntKind} {t e : TypeId} {v : Value} {d : DataW H} {ps : List MemPlace} (ht : P.underlying t = some (.slice e)) (he : P.underlying e = some (.int k)) (hc : P.cellsOf e = 1)
    (hv : ∃ a len cap, v = .slice a len cap) (h : DataW.Trod enc P w base spare held t v d ps) :
    ∃ l : List Int, Sl (fun b => b < w.heap.size) w v (l.map (Value.int k)) ∧ (∀ n ∈ l, (Lit.int k n).wf = true) ∧ ((d = .nil ∧ l = []) ∨ ∃ elems sp, d = .slice elems sp ∧ elems.length = l.length) := by
  obtain ⟨a, len, cap, rfl⟩ := hv
  obtain ⟨fuel, hf⟩ := h
  rcases open_ints ht he hc hf with ⟨hcs, hx⟩ | ⟨x, l, c, zs, hcs, _, hl, hm, hz, hx, hcell, hwz⟩
  · simp [Value.cells] at hcs
    obtain ⟨rfl, rfl, rfl⟩ := hcs
    simp at hx
    exact ⟨[], Sl.nil _ _, by simp, .inl ⟨hx.1, rfl⟩⟩
  · simp [Value.cells] at hcs
    obtain ⟨rfl, rfl, rfl⟩ := hcs
    simp only [Prod.mk.injEq] at hx
    have hlz : len ≤ zs.length := by rw [hz]; split <;> omega
    exact ⟨zs.take len, sl_open hl hm hlz hcell, fun n hn => hwz n (List.mem_of_mem_take hn), .inr ⟨_, _, hx.1, by simp [lits]⟩⟩
theorem open_u8s {t e : TypeId} {v : Value} {d : DataW H} {ps : List MemPlace} (ht : P.underlying t = some (.slice e)) (he : P.underlying e = some (.int .u8)) (hc : P.cellsOf e = 1)
    (hv : ∃ a len cap, v = .slice a len cap) (h : DataW.Trod enc P w base spare held t v d ps) :
    ∃ l : List Nat, Sl (fun b => b < w.heap.size) w v (u8s l) ∧ (∀ c ∈ l, c < 256) ∧ ((d = .nil ∧ l = []) ∨ ∃ elems sp, d = .slice elems sp ∧ elems.length = l.length) := by
  obtain ⟨l, h1, h2, h3⟩ := open_slice_k ht he hc hv h
  refine ⟨l.map Int.toNat, ?_, fun c hc => ?_, by simpa using h3⟩
  · have : u8s (l.map Int.toNat) = l.map (Value.int .u8) := by
      simp only [u8s, List.map_map]
      refine List.map_congr_left fun n hn => ?_
      have := u8_of_wf (h2 n hn)
      simp only [Function.comp]
      rw [Int.toNat_of_nonneg this.1]
    rw [this]; exact h1
  · obtain ⟨n, hn, rfl⟩ := List.mem_map.1 hc
    have := u8_of_wf (h2 n hn)
    omega
end
end Go.Proofs.YtgfekgceeigdiaaDoor
