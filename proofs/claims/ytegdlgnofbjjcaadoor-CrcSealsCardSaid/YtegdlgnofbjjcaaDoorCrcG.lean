/- The matrices. -/
import Derived.Test.YtegdlgnofbjjcaaDoorCrcF
import Derived.Deep.MidRow
import Derived.Deep.Cut
namespace Go.Proofs.YtegdlgnofbjjcaaDoor
open Go.RowKit
attribute [local go_sem ↓] Go.wp_at_zero Go.wp_at_succ

/-- the matrix of n steps -/
def matN (n : Nat) : List Nat := (List.range 32).map (fun i => steps n (2 ^ i))
def matV (n : Nat) : Array Value := ((matN n).map (fun x => Value.int .u32 (x : Nat))).toArray
theorem mat_at (n i : Nat) (h : i < 32) : (matV n)[i]? = some (.int .u32 (steps n (2 ^ i) : Nat)) := by
  simp [matV, matN, h]
theorem mat_size (n : Nat) : (matV n).size = 32 := by simp [matV, matN]
theorem low_bit (v i : Nat) : v % 2 ^ (i + 1) = v % 2 ^ i ^^^ (v / 2 ^ i % 2 * 2 ^ i) := by
  have h1 : v % 2 ^ (i + 1) = v % 2 ^ i + 2 ^ i * (v / 2 ^ i % 2) := by rw [Nat.pow_succ, Nat.mod_mul]
  have h2 : v % 2 ^ i < 2 ^ i := Nat.mod_lt _ (Nat.two_pow_pos i)
  apply Nat.eq_of_testBit_eq
  intro j
  rw [h1, Nat.add_comm, Nat.testBit_two_pow_mul_add _ h2, Nat.testBit_xor, Nat.testBit_mul_two_pow]
  by_cases hj : j < i
  · simp [hj, Nat.not_le.mpr hj]
  · have hlt : (v % 2 ^ i).testBit j = false := Nat.testBit_lt_two_pow (Nat.lt_of_lt_of_le h2 (Nat.pow_le_pow_right (by decide) (by omega)))
    rw [hlt, if_neg hj]; simp [Nat.not_lt.mp hj]
theorem and1 (x : Nat) (hx : x < 4294967296) : bits BinOp.and IntKind.u32 (x : Int) 1 = ((x % 2 : Nat) : Int) := by
  have h := u32_and_nat x 1 hx (by omega)
  rw [show ((1 : Nat) : Int) = 1 by rfl, show x &&& 1 = x % 2 from Nat.and_two_pow_sub_one_eq_mod x 1] at h
  exact h
set_option maxRecDepth 100000 in set_option maxHeartbeats 400000 in
theorem times_any (n v : Nat) (w : World) (hv : v < 4294967296) :
    Calls Tryd.prog 34 #[.agg (matV n), .int .u32 v] w fun e w' => e = .returned (.int .u32 (steps n v : Nat)) ∧ Keeps (fun _ => False) w w' := by
  have HV := hid hv
  have HM : Hd (∀ i, i < 32 → (matV n)[i]? = some (.int .u32 (steps n (2 ^ i) : Nat))) := hid (mat_at n)
  have HZ := hid (mat_size n)
  generalize matV n = m at *
  clear hv
  go_enter Tryd.func34, Tryd.ntmps34
  go_wp2_with fail
  have HB : Hd (Blk (w.alloc (.cells m 57)) w.heap.size m 57) := hid (blk_new w m _)
  have HK : Hd (Keeps (fun _ => False) w (w.alloc (.cells m 57))) := hid (keeps_alloc _ _ _)
  generalize w.alloc (.cells m 57) = w1 at *
  generalize w.heap.size = b at *
  go_loop [5, 6, 7] (fun r i6 i => ∃ k : Nat, k ≤ 32 ∧ i = .int .i64 k ∧ r = .int .u32 (steps n (v % 2 ^ k) : Nat)) (fun _ _ i => 32 - (intOf i).toNat)
  case atStart => exact ⟨0, by omega, rfl, by simp [Nat.mod_one, steps_zero]⟩
  case round =>
    obtain ⟨k, hk, rfl, rfl⟩ := hrel
    by_cases hlt : k < 32
    · have HS : Hd (steps n (v % 2 ^ (k + 1)) = steps n (v % 2 ^ k) ^^^ steps n (v / 2 ^ k % 2 * 2 ^ k)) := hid (by rw [low_bit, steps_xor])
      have HY : Hd (steps n (v % 2 ^ k) < 4294967296) := hid (steps_lt n (Nat.lt_of_le_of_lt (Nat.mod_le _ _) HV.out))
      generalize steps n (v % 2 ^ k) = y at *
      have k1 : (k : Int) < 32 := by omega
      have k2 : (0 : Int) ≤ k := by omega
      have hx : v / 2 ^ k < 4294967296 := Nat.lt_of_le_of_lt (Nat.div_le_self _ _) HV.out
      have hxe : ((v / 2 ^ k : Nat) : Int) = (v : Int) / 2 ^ k := by simp
      have X0 := and1 (v / 2 ^ k) hx
      rw [hxe] at X0
      clear hxe hx
      by_cases ho : v / 2 ^ k % 2 = 1
      · have hb : bits BinOp.and IntKind.u32 ((v : Int) / 2 ^ k) 1 = 1 := by rw [X0, ho]; rfl
        have HL := hid (HM.out k hlt)
        have hzl : steps n (2 ^ k) < 4294967296 := steps_lt n (Nat.pow_lt_pow_right (by decide) (by omega))
        have X1 := u32_xor_nat y (steps n (2 ^ k)) HY.out hzl
        have HS2 : Hd (steps n (v % 2 ^ (k + 1)) = y ^^^ steps n (2 ^ k)) := hid (by rw [HS.out, ho, Nat.one_mul])
        generalize steps n (2 ^ k) = z at *
        have hc : w1.cell? ⟨b, k, none⟩ = some (.int .u32 (z : Nat)) := (blk_cell HB.out k).trans HL.out
        clear X0 ho hzl
        go_wp2
        go_round
        case rel => exact ⟨k + 1, by omega, by go_num, by rw [HS2.out]⟩
        case measure => simp [intOf]; omega
      · have hb : bits BinOp.and IntKind.u32 ((v : Int) / 2 ^ k) 1 = 0 := by rw [X0, show v / 2 ^ k % 2 = 0 by omega]; rfl
        have HS2 : Hd (steps n (v % 2 ^ (k + 1)) = y) := hid (by rw [HS.out, show v / 2 ^ k % 2 = 0 by omega, Nat.zero_mul, steps_zero, Nat.xor_zero])
        clear X0 ho
        go_wp2
        go_round
        case rel => exact ⟨k + 1, by omega, by go_num, by rw [HS2.out]⟩
        case measure => simp [intOf]; omega
    · have hkn : k = 32 := by omega
      have HE : Hd (steps n (v % 2 ^ k) = steps n v) := hid (by rw [hkn, Nat.mod_eq_of_lt HV.out])
      clear hkn
      go_wp2
      go_ret
      exact ⟨ret_int (by rw [HE.out]), HK.out⟩
end Go.Proofs.YtegdlgnofbjjcaaDoor
