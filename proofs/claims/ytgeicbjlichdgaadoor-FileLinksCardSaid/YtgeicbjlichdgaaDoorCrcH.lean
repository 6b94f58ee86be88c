/- The matrices: zero. -/
import Derived.Test.YtgeicbjlichdgaaDoorCrcG
namespace Go.Proofs.YtgeicbjlichdgaaDoor.Cr
open Go.RowKit
attribute [local go_sem ↓] Go.wp_at_zero Go.wp_at_succ
/-- the first k entries of the matrix of n steps -/
def parA (n k : Nat) : Array Value := ((List.range 32).map (fun i => Value.int .u32 ((if i < k then steps n (2 ^ i) else 0 : Nat) : Int))).toArray
theorem par_size (n k : Nat) : (parA n k).size = 32 := by simp [parA]
theorem par_all (n : Nat) : parA n 32 = matV n := by
  unfold parA matV matN
  rw [List.map_map]
  refine congrArg List.toArray (List.map_congr_left fun i hi => ?_)
  have := List.mem_range.mp hi
  simp [this]
theorem par_set (n k : Nat) (hk : k < 32) : (parA n k).setIfInBounds k (.int .u32 (steps n (2 ^ k) : Nat)) = parA n (k + 1) := by
  apply Array.ext
  · simp [parA]
  · intro i h1 h2
    have hi : i < 32 := by simpa [parA] using h2
    rw [Array.getElem_setIfInBounds (by simpa using h1)]
    by_cases h : k = i
    · subst h; simp [parA]
    · simp only [parA, List.getElem_toArray, List.getElem_map, List.getElem_range, if_neg h]
      by_cases h3 : i < k
      · rw [if_pos h3, if_pos (by omega)]
      · rw [if_neg h3, if_neg (by omega)]
theorem keeps_setCells {S : Nat → Prop} (b : Nat) : ∀ (vs : List Value) (o : Nat) {w w' : World}, Keeps S w w' → S b ∨ w.heap.size ≤ b → Keeps S w (w'.setCells b o vs)
  | [], _, _, _, h, _ => h
  | v :: r, o, _, _, h, hb => keeps_setCells b r (o + 1) (h.setCell hb v) hb
theorem blk_range {w : World} {b : Nat} {cs : Array Value} {T : TypeId} (h : Blk w b cs T) : w.rangeAt b 0 cs.toList := fun j v hv => by
  rw [Nat.zero_add, blk_cell h j]; simpa using hv
theorem blk_there {w : World} {b : Nat} {cs : Array Value} {T : TypeId} (h : Blk w b cs T) : w.there b 0 cs.size := fun j hj => by
  rw [Nat.zero_add, blk_cell h j]; exact ⟨by simp [hj], blk_free h j⟩
theorem results_cell1 {P : Program} {fn : Func} {t : Tmp} {T : TypeId} (h : fn.results = #[.cell t T]) (tmps : Array Value) (w : World) (a : Addr) (v : Value) (ht : tmps.getD t undef = .pointer (some a))
    (hl : (loadVar T a).run P w = .ok v w) : (results fn tmps).run P w = .ok v w := by
  have ht' : tmps[t]?.getD undef = .pointer (some a) := by simpa using ht
  simp [results, h, ht', asAddr, hl]
end Go.Proofs.YtgeicbjlichdgaaDoor.Cr
