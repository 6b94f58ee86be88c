/- Combine. -/
import Derived.Test.YtgeicbjlichdgaaDoorCrcI
namespace Go.Proofs.YtgeicbjlichdgaaDoor.Cr
open Go.RowKit
attribute [local go_sem ↓] Go.wp_at_zero Go.wp_at_succ
/-- an array that lies in a block, and may be written -/
def Arr (w : World) (p : Nat) (l : List Value) : Prop := w.rangeAt p 0 l ∧ w.there p 0 l.length
theorem arr_keep {S : Nat → Prop} {w w' : World} {p : Nat} {l : List Value} (h : Arr w p l) (hk : Keeps S w w') (hs : ¬ S p) : Arr w' p l :=
  ⟨fun j v hv => keep_cell hk hs (h.1 j v hv), fun j hj => by
    obtain ⟨h1, h2⟩ := h.2 j hj
    obtain ⟨v, hv⟩ := Option.isSome_iff_exists.1 h1
    exact ⟨by rw [keep_cell hk hs hv]; rfl, keep_free hk hs hv h2⟩⟩
theorem arr_store {w : World} {p : Nat} {l : List Value} (h : Arr w p l) (l2 : List Value) (hl : l2.length = l.length) : Arr (w.setCells p 0 l2) p l2 :=
  ⟨World.rangeAt_setCells_same w p 0 l2 (by rw [hl]; exact h.2), by
    have := h.2; rw [← hl] at this
    exact World.there_setCells this p 0 l2⟩
theorem arr_blk {w : World} {p : Nat} {cs : Array Value} {T : TypeId} (h : Blk w p cs T) : Arr w p cs.toList := ⟨blk_range h, by have := blk_there h; rw [Array.length_toList]; exact this⟩
theorem mat_len (n : Nat) : (matV n).toList.length = 32 := by rw [Array.length_toList, mat_size]
theorem mat_one (n : Nat) : (matV n).all (·.oneCell') = true := by simp [matV, Value.oneCell']
theorem and1i (n : Int) : bits BinOp.and IntKind.i64 n 1 = n % 2 := by
  have h1 : (BitVec.ofInt 64 1).toNat = 2 ^ 1 - 1 := by decide
  have key : (BitVec.ofInt 64 n &&& BitVec.ofInt 64 1).toNat = (n % ((2 ^ 64 : Nat) : Int)).toNat % 2 ^ 1 := by
    rw [BitVec.toNat_and, BitVec.toNat_ofInt, h1, Nat.and_two_pow_sub_one_eq_mod]
  show IntKind.i64.wrap ((BitVec.ofInt 64 n &&& BitVec.ofInt 64 1).toNat : Nat) = n % 2
  rw [key, IntKind.wrap_i64]
  omega
theorem wpList_load_arr {P : Program} {w : World} {ops : Array Oper} {rest : List Oper} {op : Oper} {a : Act} {Q : Exit → Act → World → Prop} (hgd : op.guard = none) (ty : TypeId) (x : Operand) (ho : op.op = .load ty x)
    (b o : Nat) (hx : a.eval x = .pointer (some ⟨b, o, none⟩)) (cs : Array Value) (d : TypeDesc) (hc : w.rangeAt b o cs.toList)
    (hu : P.underlying ty = some d) (hd : d.isRow = true) (hi : (P.info? ty).map (·.size) = some cs.toList.length)
    (h : wpList P ops Q rest (a.put op.dst (.agg cs)) w) : wpList P ops Q (op :: rest) a w :=
  wpList_load_mid hgd ty x ho b o hx cs.toList d hc hu hd hi (by rw [Array.toArray_toList]; exact h)
theorem odd_half (N r : Nat) (h : r % 2 = 1) : N + (N + N) * (r / 2) = N * r := by
  have e : r = 2 * (r / 2) + 1 := by omega
  generalize r / 2 = q at *
  subst e
  rw [Nat.mul_add, Nat.mul_one, ← Nat.two_mul N, Nat.mul_comm 2 N, Nat.mul_assoc, Nat.add_comm]
theorem even_half (N r : Nat) (h : r % 2 = 0) : (N + N) * (r / 2) = N * r := by
  have e : r = 2 * (r / 2) := by omega
  generalize r / 2 = q at *
  subst e
  rw [← Nat.two_mul N, Nat.mul_comm 2 N, Nat.mul_assoc]
end Go.Proofs.YtgeicbjlichdgaaDoor.Cr
