/- The walks of the register and of the checksums. -/
import Derived.Test.YtgeicbjlichdgaaDoorChecked
import Derived.Test.YtgeicbjlichdgaaDoorRegion
import Derived.Test.YtgeicbjlichdgaaDoorCrcMath
import Derived.Laws.BitsAllLaws
namespace Go.Proofs.YtgeicbjlichdgaaDoor.Cr
open Go.RowKit

def nibs : List Nat := [0, 498536548, 997073096, 651767980, 1994146192, 1802195444, 1303535960, 1342533948, 3988292384, 4027552580, 3604390888, 3412177804, 2607071920, 2262029012, 2685067896, 3183342108]
def nib (i : Nat) : Nat := nibs.getD i 0
theorem nib_steps : ∀ i, i < 16 → steps 4 i = nib i := by decide
theorem nib_lt : ∀ i, i < 16 → nib i < 4294967296 := by decide
theorem split16 (x : Nat) : x = (x % 16) ^^^ (x / 16 * 2 ^ 4) := by
  apply Nat.eq_of_testBit_eq
  intro i
  rw [Nat.testBit_xor, show x / 16 * 2 ^ 4 = 2 ^ 4 * (x / 16) by omega, Nat.testBit_two_pow_mul, show (16 : Nat) = 2 ^ 4 by rfl, Nat.testBit_mod_two_pow, Nat.testBit_div_two_pow]
  by_cases h : i < 4
  · simp [h, show ¬ 4 ≤ i by omega]
  · simp [h, show 4 ≤ i by omega]
theorem steps4 (x : Nat) : steps 4 x = x / 16 ^^^ nib (x % 16) := by
  have h := congrArg (steps 4) (split16 x)
  rw [steps_xor, steps_pow, nib_steps (x % 16) (by omega)] at h
  rw [h, Nat.xor_comm]
theorem feed_nib (x : Nat) : steps 8 x = steps 4 (steps 4 x) := steps_add 4 4 x
theorem and15 (x : Nat) (hx : x < 4294967296) : bits BinOp.and IntKind.u32 (x : Int) 15 = ((x % 16 : Nat) : Int) := by
  have h := u32_and_nat x 15 hx (by omega)
  rw [show ((15 : Nat) : Int) = 15 by rfl, show x &&& 15 = x % 16 from Nat.and_two_pow_sub_one_eq_mod x 4] at h
  exact h
/-- the table of the program -/
def Nib (w : World) : Prop := ∀ j, j < 16 → w.cell? ⟨0, j, none⟩ = some (.int .u32 (nib j : Nat))
theorem Nib.keep {S : Nat → Prop} {w w' : World} (h : Nib w) (hk : Keeps S w w') (h0 : ¬ S 0) : Nib w' := fun j hj => keep_cell hk h0 (h j hj)
theorem Nib.drawn {w w' : World} (h : Nib w) (hd : Drawn w w') : Nib w' := fun j hj => hd.cell (h j hj)
set_option maxRecDepth 100000 in set_option maxHeartbeats 400000 in
theorem feed_any (r c : Nat) (w : World) (hN : Nib w) (hr : r < 4294967296) (hc : c < 256) :
    Calls Tryd.prog 62 #[.int .u32 r, .int .u8 c] w fun e w' => e = .returned (.int .u32 (feed r c : Nat)) ∧ w = w' := by
  have X1 := u32_xor_nat r c hr (by omega)
  have hx : r ^^^ c < 4294967296 := xor_lt (n := 32) hr (by omega)
  have HF : Hd (feed r c = steps 4 (steps 4 (r ^^^ c))) := hid (feed_nib _)
  generalize r ^^^ c = x at *
  have X2 := and15 x hx
  have g0 := hN (x % 16) (by omega)
  have X3 := u32_xor_nat (x / 16) (nib (x % 16)) (by omega) (nib_lt _ (by omega))
  rw [← steps4 x] at X3
  have hy : steps 4 x < 4294967296 := steps_lt 4 hx
  generalize steps 4 x = y at *
  have m0 : x % 16 < 16 := by omega
  generalize x % 16 = i at *
  generalize nib i = t at *
  have X4 := and15 y hy
  have g1 := hN (y % 16) (by omega)
  have X5 := u32_xor_nat (y / 16) (nib (y % 16)) (by omega) (nib_lt _ (by omega))
  rw [← steps4 y] at X5
  generalize steps 4 y = z at *
  have m1 : y % 16 < 16 := by omega
  generalize y % 16 = i2 at *
  generalize nib i2 = t2 at *
  have HN := hid hN; clear hN
  have e1 : ((x / 16 : Nat) : Int) = (x : Int) / 16 := by omega
  have e2 : ((y / 16 : Nat) : Int) = (y : Int) / 16 := by omega
  rw [e1] at X3
  rw [e2] at X5
  clear e1 e2
  go_enter Tryd.func62, Tryd.ntmps62
  go_wp2
  go_ret
  exact ⟨ret_int (by rw [HF.out]), rfl⟩
theorem not_u32 (r : Nat) (h : r < 4294967296) : bits BinOp.xor IntKind.u32 IntKind.u32.max (r : Int) = ((r ^^^ full : Nat) : Int) := by
  have h1 := u32_xor_nat full r (by decide) h
  rw [Nat.xor_comm] at h1
  exact h1
theorem sub_u32 (r : Nat) (h : r < 4294967296) : 4294967295 - (r : Int) = ((r ^^^ full : Nat) : Int) := by
  have h1 : (BitVec.ofNat 32 r ^^^ BitVec.allOnes 32).toNat = (~~~ (BitVec.ofNat 32 r)).toNat := by rw [BitVec.xor_allOnes]
  rw [BitVec.toNat_xor, BitVec.toNat_not, BitVec.toNat_ofNat, BitVec.toNat_allOnes, Nat.mod_eq_of_lt (by omega)] at h1
  have h2 : r ^^^ full = 4294967295 - r := h1
  omega
theorem reg_take {l : List Nat} {k : Nat} (h : k < l.length) (r : Nat) : reg r (l.take (k + 1)) = feed (reg r (l.take k)) l[k] := by
  rw [List.take_succ_eq_append_getElem h, reg_app]; rfl
theorem take_lt {l : List Nat} (h : ∀ c ∈ l, c < 256) (k : Nat) : ∀ c ∈ l.take k, c < 256 := fun c hc => h c (List.mem_of_mem_take hc)
set_option maxRecDepth 100000 in set_option maxHeartbeats 400000 in
theorem Update_any (K : Nat → Prop) (s : Nat) (v : Value) (l : List Nat) (w : World) (hN : Nib w) (hv : Sl K w v (u8s l)) (hs : s < 4294967296) (hl : ∀ c ∈ l, c < 256) (hm : l.length ≤ 1000000000) :
    Calls Tryd.prog 46 #[.int .u32 s, v] w fun e w' => e = .returned (.int .u32 (upd s l : Nat)) ∧ w = w' := by
  obtain ⟨a, cap, rfl, h1, h2, h3⟩ := hv.bytes
  have HN := hid hN; have HL := hid hl; have HV := hid h3
  clear hN hl hv h3
  unfold maxLen at h2
  have X0 := not_u32 s hs
  have hr0 : s ^^^ full < 4294967296 := xor_lt (n := 32) hs (by decide)
  have HR0 := hid hr0
  have HU : Hd (upd s l = reg (s ^^^ full) l ^^^ full) := hid rfl
  generalize s ^^^ full = r0 at *
  clear hr0
  generalize hll : l.length = n at *
  have HLL := hid hll; clear hll
  go_enter Tryd.func46, Tryd.ntmps46
  go_wp2_with fail
  go_loop [5, 12] (fun r i => ∃ k : Nat, k ≤ n ∧ i = .int .i64 k ∧ r = .int .u32 (reg r0 (l.take k) : Nat)) (fun _ i => n - (intOf i).toNat)
  case atStart => exact ⟨0, by omega, rfl, by simp [reg]⟩
  case round =>
    obtain ⟨k, hk, rfl, rfl⟩ := hrel
    have hrk : reg r0 (l.take k) < 4294967296 := reg_lt _ HR0.out (take_lt HL.out k)
    have HRK := hid hrk
    by_cases hlt : k < n
    · have hkn : k < l.length := by rw [HLL.out]; exact hlt
      obtain ⟨b, o, rfl, _, _, hc⟩ := HV.out (by omega)
      have hcell := hc k hlt
      have hck : l.getD k 0 < 256 := by simp only [List.getD, List.getElem?_eq_getElem hkn]; exact HL.out _ (List.getElem_mem hkn)
      have HS : Hd (reg r0 (l.take (k + 1)) = feed (reg r0 (l.take k)) (l.getD k 0)) := hid (by rw [reg_take hkn]; simp [List.getD, hkn])
      clear hc
      generalize reg r0 (l.take k) = rk at *
      generalize l.getD k 0 = c at *
      have HCK := hid hck; clear hck hrk
      have hk1 : (k : Int) < n := by omega
      have hk2 : (0 : Int) ≤ (k : Int) := by omega
      go_wp2_with fail
      refine (feed_any rk c _ HN.out HRK.out HCK.out).mono ?_
      rintro e w1 ⟨rfl, rfl⟩
      go_wp2
      go_round
      case rel => exact ⟨k + 1, by omega, by go_num, by rw [HS.out]⟩
      case measure => simp [intOf]; omega
    · have hkn : k = n := by omega
      have X1 := not_u32 _ hrk
      have HE : Hd (upd s l = reg r0 (l.take k) ^^^ full) := hid (by rw [HU.out, hkn, ← HLL.out, List.take_length])
      generalize reg r0 (l.take k) = rk at *
      generalize rk ^^^ full = z at *
      clear hrk
      go_wp2
      go_ret
      exact ⟨ret_int (by rw [HE.out]), rfl⟩
set_option maxRecDepth 100000 in set_option maxHeartbeats 400000 in
theorem Sum_any (K : Nat → Prop) (v : Value) (l : List Nat) (w : World) (hN : Nib w) (hv : Sl K w v (u8s l)) (hl : ∀ c ∈ l, c < 256) (hm : l.length ≤ 1000000000) :
    Calls Tryd.prog 29 #[v] w fun e w' => e = .returned (.int .u32 (crc l : Nat)) ∧ w = w' := by
  have HN := hid hN; have HL := hid hl; have HV := hid hv
  obtain ⟨a, cap, rfl, _⟩ := hv.bytes
  clear hN hl hv
  generalize hll : l.length = n at *
  have HLL := hid hll; clear hll
  go_enter Tryd.func29, Tryd.ntmps29
  go_wp2_with fail
  refine (Update_any K 0 _ l _ HN.out HV.out (by omega) HL.out (by rw [HLL.out]; exact hm)).mono ?_
  rintro e w1 ⟨rfl, rfl⟩
  go_wp2
  go_ret
  exact ⟨rfl, rfl⟩
set_option maxRecDepth 100000 in set_option maxHeartbeats 400000 in
theorem RFeed_any (r c : Nat) (w : World) (hr : r < 4294967296) (hc : c < 256) :
    Calls Tryd.prog 74 #[.int .u32 r, .int .u8 c] w fun e w' => e = .returned (.int .u32 (feed r c : Nat)) ∧ w = w' := by
  have X1 := u32_xor_nat r c hr (by omega)
  have hx : r ^^^ c < 4294967296 := xor_lt (n := 32) hr (by omega)
  have HF : Hd (feed r c = steps 8 (r ^^^ c)) := hid rfl
  generalize r ^^^ c = x at *
  have HX := hid hx; clear hx
  go_enter Tryd.func74, Tryd.ntmps74
  go_wp2_with fail
  go_loop [0, 5] (fun r i => ∃ k : Nat, k ≤ 8 ∧ i = .int .i64 k ∧ r = .int .u32 (steps k x : Nat)) (fun _ i => 8 - (intOf i).toNat)
  case atStart => exact ⟨0, by omega, rfl, rfl⟩
  case round =>
    obtain ⟨k, hk, rfl, rfl⟩ := hrel
    have hy : steps k x < 4294967296 := steps_lt k HX.out
    by_cases hlt : k < 8
    · have HS : Hd (steps (k + 1) x = step (steps k x)) := hid (steps_add k 1 x)
      generalize steps k x = y at *
      by_cases ho : y % 2 = 1
      · have X3 := u32_xor_nat (y / 2) 3988292384 (by omega) (by omega)
        have HS2 : Hd (steps (k + 1) x = y / 2 ^^^ 3988292384) := hid (by rw [HS.out]; unfold step; rw [if_pos ho])
        generalize y / 2 ^^^ 3988292384 = z at *
        have t0 : ((y : Int) % 2 == 1) = true := by simp; omega
        have e1 : ((y / 2 : Nat) : Int) = (y : Int) / 2 := by omega
        rw [e1] at X3
        have X4 : bits BinOp.xor IntKind.u32 ((y : Int) / 2) 3988292384 = (z : Int) := X3
        clear e1 X3 ho
        go_wp2
        go_round
        case rel => exact ⟨k + 1, by omega, by go_num, by rw [HS2.out]⟩
        case measure => simp [intOf]; omega
      · have HS2 : Hd (steps (k + 1) x = y / 2) := hid (by rw [HS.out]; unfold step; rw [if_neg ho])
        have t0 : ((y : Int) % 2 == 1) = false := by simp; omega
        clear ho
        go_wp2
        go_round
        case rel => exact ⟨k + 1, by omega, by go_num, by rw [HS2.out]; go_num⟩
        case measure => simp [intOf]; omega
    · have hk8 : k = 8 := by omega
      have HE : Hd (feed r c = steps k x) := hid (by rw [HF.out, hk8])
      clear hk8
      go_wp2
      go_ret
      exact ⟨ret_int (by rw [HE.out]), rfl⟩
set_option maxRecDepth 100000 in set_option maxHeartbeats 400000 in
theorem Register_any (K : Nat → Prop) (r0 : Nat) (v : Value) (l : List Nat) (w : World) (hv : Sl K w v (u8s l)) (hr : r0 < 4294967296) (hl : ∀ c ∈ l, c < 256) (hm : l.length ≤ 1000000000) :
    Calls Tryd.prog 73 #[.int .u32 r0, v] w fun e w' => e = .returned (.int .u32 (reg r0 l : Nat)) ∧ w = w' := by
  obtain ⟨a, cap, rfl, h1, h2, h3⟩ := hv.bytes
  have HL := hid hl; have HV := hid h3; have HR0 := hid hr
  clear hl hv h3 hr
  unfold maxLen at h2
  generalize hll : l.length = n at *
  have HLL := hid hll; clear hll
  go_enter Tryd.func73, Tryd.ntmps73
  go_wp2_with fail
  go_loop [0, 5] (fun r i => ∃ k : Nat, k ≤ n ∧ i = .int .i64 k ∧ r = .int .u32 (reg r0 (l.take k) : Nat)) (fun _ i => n - (intOf i).toNat)
  case atStart => exact ⟨0, by omega, rfl, by simp [reg]⟩
  case round =>
    obtain ⟨k, hk, rfl, rfl⟩ := hrel
    have hrk : reg r0 (l.take k) < 4294967296 := reg_lt _ HR0.out (take_lt HL.out k)
    have HRK := hid hrk; clear hrk
    by_cases hlt : k < n
    · have hkn : k < l.length := by rw [HLL.out]; exact hlt
      obtain ⟨b, o, rfl, _, _, hc⟩ := HV.out (by omega)
      have hcell := hc k hlt
      have hck : l.getD k 0 < 256 := by simp only [List.getD, List.getElem?_eq_getElem hkn]; exact HL.out _ (List.getElem_mem hkn)
      have HS : Hd (reg r0 (l.take (k + 1)) = feed (reg r0 (l.take k)) (l.getD k 0)) := hid (by rw [reg_take hkn]; simp [List.getD, hkn])
      clear hc
      generalize reg r0 (l.take k) = rk at *
      generalize l.getD k 0 = c at *
      have HCK := hid hck; clear hck
      have hk1 : (k : Int) < n := by omega
      have hk2 : (0 : Int) ≤ (k : Int) := by omega
      go_wp2_with fail
      refine (RFeed_any rk c _ HRK.out HCK.out).mono ?_
      rintro e w1 ⟨rfl, rfl⟩
      go_wp2
      go_round
      case rel => exact ⟨k + 1, by omega, by go_num, by rw [HS.out]⟩
      case measure => simp [intOf]; omega
    · have hkn : k = n := by omega
      have HE : Hd (reg r0 l = reg r0 (l.take k)) := hid (by rw [hkn, ← HLL.out, List.take_length])
      clear hkn
      go_wp2
      go_ret
      exact ⟨ret_int (by rw [HE.out]), rfl⟩
set_option maxRecDepth 100000 in set_option maxHeartbeats 400000 in
theorem RUpdate_any (K : Nat → Prop) (s : Nat) (v : Value) (l : List Nat) (w : World) (hv : Sl K w v (u8s l)) (hs : s < 4294967296) (hl : ∀ c ∈ l, c < 256) (hm : l.length ≤ 1000000000) :
    Calls Tryd.prog 70 #[.int .u32 s, v] w fun e w' => e = .returned (.int .u32 (upd s l : Nat)) ∧ w = w' := by
  have HL := hid hl; have HV := hid hv
  obtain ⟨a, cap, rfl, _⟩ := hv.bytes
  clear hl hv
  have X0 := sub_u32 s hs
  have HR0 := hid (show s ^^^ full < 4294967296 from xor_lt (n := 32) hs (by decide))
  have HU : Hd (upd s l = reg (s ^^^ full) l ^^^ full) := hid rfl
  generalize s ^^^ full = r0 at *
  have W0 : IntKind.u32.wrap (4294967295 - (s : Int)) = r0 := by rw [X0]; simp [IntKind.wrap, IntKind.bits, IntKind.signed]; have := HR0.out; omega
  have hrk := reg_lt l HR0.out HL.out
  have X1 := sub_u32 _ hrk
  have hz : reg r0 l ^^^ full < 4294967296 := xor_lt (n := 32) hrk (by decide)
  have W1 : IntKind.u32.wrap (4294967295 - (reg r0 l : Int)) = (reg r0 l ^^^ full : Nat) := by rw [X1]; simp [IntKind.wrap, IntKind.bits, IntKind.signed]; omega
  generalize hll : l.length = n at *
  have HLL := hid hll; clear hll hz hrk
  go_enter Tryd.func70, Tryd.ntmps70
  go_wp2_with fail
  refine (Register_any K r0 _ l _ HV.out HR0.out HL.out (by rw [HLL.out]; exact hm)).mono ?_
  rintro e w1 ⟨rfl, rfl⟩
  go_wp2
  go_ret
  exact ⟨ret_int (by rw [HU.out]), rfl⟩
set_option maxRecDepth 100000 in set_option maxHeartbeats 400000 in
theorem RSum_any (K : Nat → Prop) (v : Value) (l : List Nat) (w : World) (hv : Sl K w v (u8s l)) (hl : ∀ c ∈ l, c < 256) (hm : l.length ≤ 1000000000) :
    Calls Tryd.prog 60 #[v] w fun e w' => e = .returned (.int .u32 (crc l : Nat)) ∧ w = w' := by
  have HL := hid hl; have HV := hid hv
  obtain ⟨a, cap, rfl, _⟩ := hv.bytes
  clear hl hv
  generalize hll : l.length = n at *
  have HLL := hid hll; clear hll
  go_enter Tryd.func60, Tryd.ntmps60
  go_wp2_with fail
  refine (RUpdate_any K 0 _ l _ HV.out (by omega) HL.out (by rw [HLL.out]; exact hm)).mono ?_
  rintro e w1 ⟨rfl, rfl⟩
  go_wp2
  go_ret
  exact ⟨rfl, rfl⟩
end Go.Proofs.YtgeicbjlichdgaaDoor.Cr
