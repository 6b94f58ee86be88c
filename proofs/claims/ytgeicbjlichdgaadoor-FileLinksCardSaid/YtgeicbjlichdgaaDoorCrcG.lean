/- The matrices. -/
import Derived.Test.YtgeicbjlichdgaaDoorCrcF
import Derived.Deep.MidRow
import Derived.Deep.Cut
namespace Go.Proofs.YtgeicbjlichdgaaDoor.Cr
open Go.RowKit
attribute [local go_sem ↓] Go.wp_at_zero Go.wp_at_succ

/-- the matrix of n steps -/
def matN (n : Nat) : List Nat := (List.range 32).map (fun i => steps n (2 ^ i))
def matV (n : Nat) : Array Value := ((matN n).map (fun x => Value.int .u32 (x : Nat))).toArray
theorem mat_at (n i : Nat) (h : i < 32) : (matV n)[i]? = some (.int .u32 (steps n (2 ^ i) : Nat)) := by
  simp [matV, matN, h]
theorem mat_size (n : Nat) : (matV n).size = 32 := by simp [matV, matN]
theorem low_bit (v i : Nat) : v % 2 ^ (i + 1) = v % 2 ^ i ^^^ (v / 2 ^ i % 2 * 2 ^ i) := by
  have h1 : v % 2 ^ (i + 1) = v % 2 ^ i + 2 ^ i * (v / 2 ^ i % 2) := by rw [Nat.pow_succ, Nat.mod_mul]
  have h2 : v % 2 ^ i < 2 ^ i := Nat.mod_lt _ (Nat.two_pow_pos i)
  apply Nat.eq_of_testBit_eq
  intro j
  rw [h1, Nat.add_comm, Nat.testBit_two_pow_mul_add _ h2, Nat.testBit_xor, Nat.testBit_mul_two_pow]
  by_cases hj : j < i
  · simp [hj, Nat.not_le.mpr hj]
  · have hlt : (v % 2 ^ i).testBit j = false := Nat.testBit_lt_two_pow (Nat.lt_of_lt_of_le h2 (Nat.pow_le_pow_right (by decide) (by omega)))
    rw [hlt, if_neg hj]; simp [Nat.not_lt.mp hj]
theorem and1 (x : Nat) (hx : x < 4294967296) : bits BinOp.and IntKind.u32 (x : Int) 1 = ((x % 2 : Nat) : Int) := by
  have h := u32_and_nat x 1 hx (by omega)
  rw [show ((1 : Nat) : Int) = 1 by rfl, show x &&& 1 = x % 2 from Nat.and_two_pow_sub_one_eq_mod x 1] at h
  exact h
end Go.Proofs.YtgeicbjlichdgaaDoor.Cr
