/- Custody: CrcMath, CrcA, CrcB, CrcC, CrcD, CrcE, CrcF, CrcG, CrcH, CrcI, CrcJ, CrcK, CrcL, CrcM, CrcO, CrcOS, CrcT: walks and plain facts. -/
import Derived.WalkKit
import Derived.Test.YtgfekgceeigdiaaDoorChecked
import Derived.Test.YtgfekgceeigdiaaDoorBaseAll
import Derived.Laws.BitsAllLaws
import Derived.Lib.SliceRun
import Derived.Lib.AppendZerosOnto
import Derived.WalkSpells
import Derived.Deep.RegionHeld3
import Derived.Deep.DrawnRows
import Derived.Laws.IdiomStrings
import Derived.Deep.RegionWith
import Derived.Deep.Cut
import Derived.Deep.MidRow
import Derived.Lib.SlBytesConst
namespace Go.Proofs.YtgfekgceeigdiaaDoor.Cr
open Go.RowKit

theorem xor_half (a b : Nat) : (a ^^^ b) / 2 = a / 2 ^^^ b / 2 := by
  apply Nat.eq_of_testBit_eq
  intro i
  rw [Nat.testBit_xor, ← Nat.testBit_succ, ← Nat.testBit_succ, ← Nat.testBit_succ, Nat.testBit_xor]
theorem xor_odd (a b : Nat) : (a ^^^ b) % 2 = (a % 2 + b % 2) % 2 := by
  have h := Nat.testBit_xor a b 0
  simp only [Nat.testBit_zero] at h
  have h1 : (a ^^^ b) % 2 = 0 ∨ (a ^^^ b) % 2 = 1 := by omega
  have h2 : a % 2 = 0 ∨ a % 2 = 1 := by omega
  have h3 : b % 2 = 0 ∨ b % 2 = 1 := by omega
  rcases h1 with h1 | h1 <;> rcases h2 with h2 | h2 <;> rcases h3 with h3 | h3 <;> simp [h1, h2, h3] at h ⊢
/-- one bit's step of the register -/
def step (r : Nat) : Nat := if r % 2 = 1 then r / 2 ^^^ 3988292384 else r / 2
def steps : Nat → Nat → Nat
  | 0, r => r
  | n + 1, r => steps n (step r)
theorem step_xor (a b : Nat) : step (a ^^^ b) = step a ^^^ step b := by
  unfold step
  rw [xor_odd, xor_half]
  have h2 : a % 2 = 0 ∨ a % 2 = 1 := by omega
  have h3 : b % 2 = 0 ∨ b % 2 = 1 := by omega
  rcases h2 with h2 | h2 <;> rcases h3 with h3 | h3 <;> simp [h2, h3]
  · rw [Nat.xor_assoc]
  · rw [Nat.xor_assoc, Nat.xor_assoc, Nat.xor_comm 3988292384]
  · rw [Nat.xor_assoc, Nat.xor_comm 3988292384, Nat.xor_assoc, Nat.xor_self, Nat.xor_zero]
theorem steps_xor (n : Nat) : ∀ a b : Nat, steps n (a ^^^ b) = steps n a ^^^ steps n b := by
  induction n with
  | zero => intro a b; rfl
  | succ n ih => intro a b; simp only [steps, step_xor, ih]
theorem steps_zero (n : Nat) : steps n 0 = 0 := by
  induction n with
  | zero => rfl
  | succ n ih => simpa [steps, step] using ih
theorem steps_add (m n : Nat) : ∀ r, steps (m + n) r = steps n (steps m r) := by
  induction m with
  | zero => intro r; simp [steps]
  | succ m ih => intro r; rw [Nat.succ_add]; simp only [steps, ih]
theorem step_double (r : Nat) : step (2 * r) = r := by unfold step; rw [if_neg (by omega)]; omega
theorem steps_pow (n : Nat) : ∀ r, steps n (r * 2 ^ n) = r := by
  induction n with
  | zero => intro r; simp [steps]
  | succ n ih => intro r; rw [Nat.pow_succ]; simp only [steps]; rw [show r * (2 ^ n * 2) = 2 * (r * 2 ^ n) by rw [← Nat.mul_assoc, Nat.mul_comm]]; rw [step_double, ih]
theorem xor_lt {a b n : Nat} (ha : a < 2 ^ n) (hb : b < 2 ^ n) : a ^^^ b < 2 ^ n := Nat.xor_lt_two_pow ha hb
theorem step_lt {r : Nat} (h : r < 2 ^ 32) : step r < 2 ^ 32 := by
  unfold step
  split
  · exact xor_lt (by omega) (by decide)
  · omega
theorem steps_lt (n : Nat) : ∀ {r : Nat}, r < 2 ^ 32 → steps n r < 2 ^ 32 := by
  induction n with
  | zero => intro r h; exact h
  | succ n ih => intro r h; exact ih (step_lt h)
theorem top_xor {r : Nat} (h : r < 2 ^ 31) : 2 ^ 31 ≤ r ^^^ 3988292384 := by
  have h1 : (r ^^^ 3988292384).testBit 31 = true := by
    rw [Nat.testBit_xor, Nat.testBit_lt_two_pow h]; decide
  exact Nat.ge_two_pow_of_testBit h1
theorem step_ne {r : Nat} (h : r < 2 ^ 32) (h0 : r ≠ 0) : step r ≠ 0 := by
  unfold step
  split
  · have := top_xor (r := r / 2) (by omega)
    omega
  · omega
theorem steps_ne (n : Nat) : ∀ {r : Nat}, r < 2 ^ 32 → r ≠ 0 → steps n r ≠ 0 := by
  induction n with
  | zero => intro r _ h; exact h
  | succ n ih => intro r h h0; exact ih (step_lt h) (step_ne h h0)
theorem xor_eq_zero' {a b : Nat} (h : a ^^^ b = 0) : a = b := by
  have h2 : a ^^^ b ^^^ b = 0 ^^^ b := by rw [h]
  rw [Nat.xor_assoc, Nat.xor_self, Nat.xor_zero, Nat.zero_xor] at h2
  exact h2
/-- the register after a byte -/
def feed (r c : Nat) : Nat := steps 8 (r ^^^ c)
def reg (r : Nat) (l : List Nat) : Nat := l.foldl feed r
/-- a byte slice as one number, the first byte lowest -/
def num : List Nat → Nat
  | [] => 0
  | c :: l => c ^^^ (num l * 256)
theorem reg_num (l : List Nat) : ∀ r, reg r l = steps (8 * l.length) (r ^^^ num l) := by
  induction l with
  | nil => intro r; simp [reg, num, steps]
  | cons c l ih =>
    intro r
    show reg (feed r c) l = _
    rw [ih, List.length_cons, show 8 * (l.length + 1) = 8 + 8 * l.length by omega, steps_add]
    congr 1
    have e : num (c :: l) = c ^^^ (num l * 256) := rfl
    rw [e]
    unfold feed
    rw [← Nat.xor_assoc, steps_xor 8 (r ^^^ c), show num l * 256 = num l * 2 ^ 8 by rfl, steps_pow]
theorem reg_app (r : Nat) (a b : List Nat) : reg r (a ++ b) = reg (reg r a) b := by simp [reg]
theorem reg_lt (l : List Nat) : ∀ {r : Nat}, r < 2 ^ 32 → (∀ c ∈ l, c < 256) → reg r l < 2 ^ 32 := by
  induction l with
  | nil => intro r h _; exact h
  | cons c l ih =>
    intro r h hc
    refine ih (r := feed r c) (steps_lt 8 (xor_lt h ?_)) (fun x hx => hc x (List.mem_cons_of_mem _ hx))
    have := hc c List.mem_cons_self
    omega
def full : Nat := 4294967295
/-- the checksum behind another one -/
def upd (sum : Nat) (l : List Nat) : Nat := reg (sum ^^^ full) l ^^^ full
def crc (l : List Nat) : Nat := upd 0 l
theorem xx (a b : Nat) : a ^^^ b ^^^ b = a := by rw [Nat.xor_assoc, Nat.xor_self, Nat.xor_zero]
theorem upd_app (s : Nat) (a b : List Nat) : upd s (a ++ b) = upd (upd s a) b := by
  unfold upd; rw [reg_app, xx]
theorem upd_lt {s : Nat} {l : List Nat} (h : s < 2 ^ 32) (hc : ∀ c ∈ l, c < 256) : upd s l < 2 ^ 32 := xor_lt (reg_lt l (xor_lt h (by decide)) hc) (by decide)
theorem crc_lt {l : List Nat} (hc : ∀ c ∈ l, c < 256) : crc l < 2 ^ 32 := upd_lt (by decide) hc
/-- combined checksums -/
def comb (a b n : Nat) : Nat := steps (8 * n) a ^^^ b
theorem upd_comb (a : Nat) (l : List Nat) : upd a l = comb a (crc l) l.length := by
  unfold upd comb crc upd
  rw [reg_num, reg_num, Nat.zero_xor, Nat.xor_assoc a, steps_xor, Nat.xor_assoc]
theorem crc_app (a b : List Nat) : crc (a ++ b) = comb (crc a) (crc b) b.length := by
  unfold crc; rw [upd_app, upd_comb]; rfl
/-- the four bytes of a checksum -/
def le4 (s : Nat) : List Nat := [s % 256, s / 256 % 256, s / 65536 % 256, s / 16777216 % 256]
theorem xor_disj {c m : Nat} (h : c < 256) : c ^^^ (m * 256) = c + m * 256 := by
  apply Nat.eq_of_testBit_eq
  intro i
  rw [Nat.testBit_xor, show m * 256 = 2 ^ 8 * m by omega, show c + 2 ^ 8 * m = 2 ^ 8 * m + c by omega, Nat.testBit_two_pow_mul_add m (by simpa using h), Nat.testBit_two_pow_mul]
  by_cases hi : i < 8
  · simp [hi, show ¬ 8 ≤ i by omega]
  · have : c < 2 ^ i := Nat.lt_of_lt_of_le (show c < 2 ^ 8 by simpa using h) (Nat.pow_le_pow_right (by omega) (by omega))
    simp [hi, Nat.testBit_lt_two_pow this, show 8 ≤ i by omega]
theorem num_cons {c : Nat} (l : List Nat) (h : c < 256) : num (c :: l) = c + num l * 256 := xor_disj h
theorem num_le4 (s : Nat) (h : s < 2 ^ 32) : num (le4 s) = s := by
  unfold le4
  rw [num_cons _ (by omega), num_cons _ (by omega), num_cons _ (by omega), num_cons _ (by omega)]
  simp only [num]; omega
theorem le4_lt (s : Nat) : ∀ c ∈ le4 s, c < 256 := by
  intro c hc; simp [le4] at hc; omega
def seal_ (l : List Nat) : List Nat := l ++ le4 (crc l)
/-- what a slice whose end is its checksum sums to -/
def residue : Nat := 558161692
theorem seal_sum_of (l t : List Nat) (hl : ∀ c ∈ l, c < 256) (ht : t.length = 4) : crc (l ++ t) = steps 32 (crc l ^^^ num t) ^^^ residue := by
  rw [crc_app, ht]
  unfold comb
  have h1 : crc t = steps 32 (num t) ^^^ residue := by
    unfold crc upd
    rw [reg_num, ht, Nat.zero_xor, show 8 * 4 = 32 by rfl, steps_xor, Nat.xor_comm (steps 32 full), Nat.xor_assoc]
    congr 1
  rw [h1, show 8 * 4 = 32 by rfl, steps_xor, Nat.xor_assoc]
theorem num_lt {l : List Nat} (h : ∀ c ∈ l, c < 256) : num l < 2 ^ (8 * l.length) := by
  induction l with
  | nil => simp [num]
  | cons c l ih =>
    have h1 := h c List.mem_cons_self
    have h2 := ih (fun x hx => h x (List.mem_cons_of_mem _ hx))
    rw [num_cons _ h1, List.length_cons, show 8 * (l.length + 1) = 8 * l.length + 8 by omega, Nat.pow_add]
    omega
theorem num_inj : ∀ {a b : List Nat}, (∀ c ∈ a, c < 256) → (∀ c ∈ b, c < 256) → a.length = b.length → num a = num b → a = b
  | [], [], _, _, _, _ => rfl
  | [], _ :: _, _, _, h, _ => by simp at h
  | _ :: _, [], _, _, h, _ => by simp at h
  | x :: a, y :: b, ha, hb, hl, hn => by
    have hx := ha x List.mem_cons_self
    have hy := hb y List.mem_cons_self
    rw [num_cons _ hx, num_cons _ hy] at hn
    have h1 : x = y := by omega
    have h2 : num a = num b := by omega
    rw [h1, num_inj (fun c hc => ha c (List.mem_cons_of_mem _ hc)) (fun c hc => hb c (List.mem_cons_of_mem _ hc)) (by simpa using hl) h2]
/-- a slice is sealed exactly if its checksum is the residue -/
theorem sealed_iff {l t : List Nat} (hl : ∀ c ∈ l, c < 256) (ht : ∀ c ∈ t, c < 256) (h4 : t.length = 4) : crc (l ++ t) = residue ↔ t = le4 (crc l) := by
  have hc := crc_lt hl
  have hn : num t < 2 ^ 32 := by have := num_lt ht; rw [h4] at this; exact this
  rw [seal_sum_of l t hl h4]
  constructor
  · intro h
    have h1 : steps 32 (crc l ^^^ num t) = 0 := by
      have : steps 32 (crc l ^^^ num t) ^^^ residue ^^^ residue = residue ^^^ residue := by rw [h]
      rwa [xx, Nat.xor_self] at this
    have h2 : crc l ^^^ num t = 0 := by
      by_cases h3 : crc l ^^^ num t = 0
      · exact h3
      · exact absurd h1 (steps_ne 32 (xor_lt hc hn) h3)
    have h3 := xor_eq_zero' h2
    exact num_inj ht (le4_lt _) (by simp [le4, h4]) (by rw [num_le4 _ hc, h3])
  · rintro rfl
    rw [num_le4 _ hc, Nat.xor_self, steps_zero, Nat.zero_xor]
/-- the checksum, by the number of the slice -/
theorem crc_num (l : List Nat) : crc l = steps (8 * l.length) (full ^^^ num l) ^^^ full := by
  unfold crc upd; rw [reg_num, Nat.zero_xor]
theorem crc_diff {a b : List Nat} (h : a.length = b.length) : crc a ^^^ crc b = steps (8 * a.length) (num a ^^^ num b) := by
  rw [crc_num, crc_num, ← h, steps_xor, steps_xor, steps_xor]
  generalize steps (8 * a.length) full = F
  generalize steps (8 * a.length) (num a) = x
  generalize steps (8 * a.length) (num b) = y
  rw [Nat.xor_comm F x, Nat.xor_comm F y, Nat.xor_assoc x, Nat.xor_assoc y, Nat.xor_comm y, ← Nat.xor_assoc, xx]
/-- a burst of at most 32 bits is seen -/
theorem burst_seen {a b : List Nat} (h : a.length = b.length) (p q : Nat) (hq : q < 2 ^ 32) (h0 : q ≠ 0) (hp : p ≤ 8 * a.length) (hn : num b = num a ^^^ q * 2 ^ p) : crc b ≠ crc a := by
  intro he
  have h1 := crc_diff h
  rw [he, Nat.xor_self, hn, ← Nat.xor_assoc, Nat.xor_self, Nat.zero_xor, show 8 * a.length = p + (8 * a.length - p) by omega, steps_add, steps_pow] at h1
  exact steps_ne _ hq h0 h1.symm
end Go.Proofs.YtgfekgceeigdiaaDoor.Cr
namespace Go.Proofs.YtgfekgceeigdiaaDoor.Cr
open Go.RowKit

def nibs : List Nat := [0, 498536548, 997073096, 651767980, 1994146192, 1802195444, 1303535960, 1342533948, 3988292384, 4027552580, 3604390888, 3412177804, 2607071920, 2262029012, 2685067896, 3183342108]
def nib (i : Nat) : Nat := nibs.getD i 0
theorem nib_steps : ∀ i, i < 16 → steps 4 i = nib i := by decide
theorem nib_lt : ∀ i, i < 16 → nib i < 4294967296 := by decide
theorem split16 (x : Nat) : x = (x % 16) ^^^ (x / 16 * 2 ^ 4) := by
  apply Nat.eq_of_testBit_eq
  intro i
  rw [Nat.testBit_xor, show x / 16 * 2 ^ 4 = 2 ^ 4 * (x / 16) by omega, Nat.testBit_two_pow_mul, show (16 : Nat) = 2 ^ 4 by rfl, Nat.testBit_mod_two_pow, Nat.testBit_div_two_pow]
  by_cases h : i < 4
  · simp [h, show ¬ 4 ≤ i by omega]
  · simp [h, show 4 ≤ i by omega]
theorem steps4 (x : Nat) : steps 4 x = x / 16 ^^^ nib (x % 16) := by
  have h := congrArg (steps 4) (split16 x)
  rw [steps_xor, steps_pow, nib_steps (x % 16) (by omega)] at h
  rw [h, Nat.xor_comm]
theorem feed_nib (x : Nat) : steps 8 x = steps 4 (steps 4 x) := steps_add 4 4 x
theorem and15 (x : Nat) (hx : x < 4294967296) : bits BinOp.and IntKind.u32 (x : Int) 15 = ((x % 16 : Nat) : Int) := by
  have h := u32_and_nat x 15 hx (by omega)
  rw [show ((15 : Nat) : Int) = 15 by rfl, show x &&& 15 = x % 16 from Nat.and_two_pow_sub_one_eq_mod x 4] at h
  exact h
/-- the table of the program -/
def Nib (w : World) : Prop := ∀ j, j < 16 → w.cell? ⟨0, j, none⟩ = some (.int .u32 (nib j : Nat))
theorem Nib.keep {S : Nat → Prop} {w w' : World} (h : Nib w) (hk : Keeps S w w') (h0 : ¬ S 0) : Nib w' := fun j hj => keep_cell hk h0 (h j hj)
set_option maxRecDepth 100000 in set_option maxHeartbeats 400000 in
theorem feed_any (r c : Nat) (w : World) (hN : Nib w) (hr : r < 4294967296) (hc : c < 256) :
    Calls Tryd.prog 40 #[.int .u32 r, .int .u8 c] w fun e w' => e = .returned (.int .u32 (feed r c : Nat)) ∧ w = w' := by
  have X1 := u32_xor_nat r c hr (by omega)
  have hx : r ^^^ c < 4294967296 := xor_lt (n := 32) hr (by omega)
  have HF : Hd (feed r c = steps 4 (steps 4 (r ^^^ c))) := hid (feed_nib _)
  generalize r ^^^ c = x at *
  have X2 := and15 x hx
  have g0 := hN (x % 16) (by omega)
  have X3 := u32_xor_nat (x / 16) (nib (x % 16)) (by omega) (nib_lt _ (by omega))
  rw [← steps4 x] at X3
  have hy : steps 4 x < 4294967296 := steps_lt 4 hx
  generalize steps 4 x = y at *
  have m0 : x % 16 < 16 := by omega
  generalize x % 16 = i at *
  generalize nib i = t at *
  have X4 := and15 y hy
  have g1 := hN (y % 16) (by omega)
  have X5 := u32_xor_nat (y / 16) (nib (y % 16)) (by omega) (nib_lt _ (by omega))
  rw [← steps4 y] at X5
  generalize steps 4 y = z at *
  have m1 : y % 16 < 16 := by omega
  generalize y % 16 = i2 at *
  generalize nib i2 = t2 at *
  have HN := hid hN; clear hN
  have e1 : ((x / 16 : Nat) : Int) = (x : Int) / 16 := by omega
  have e2 : ((y / 16 : Nat) : Int) = (y : Int) / 16 := by omega
  rw [e1] at X3
  rw [e2] at X5
  clear e1 e2
  go_enter Tryd.func40, Tryd.ntmps40
  go_wp2
  go_ret
  exact ⟨ret_int (by rw [HF.out]), rfl⟩
theorem not_u32 (r : Nat) (h : r < 4294967296) : bits BinOp.xor IntKind.u32 IntKind.u32.max (r : Int) = ((r ^^^ full : Nat) : Int) := by
  have h1 := u32_xor_nat full r (by decide) h
  rw [Nat.xor_comm] at h1
  exact h1
theorem reg_take {l : List Nat} {k : Nat} (h : k < l.length) (r : Nat) : reg r (l.take (k + 1)) = feed (reg r (l.take k)) l[k] := by
  rw [List.take_succ_eq_append_getElem h, reg_app]; rfl
theorem take_lt {l : List Nat} (h : ∀ c ∈ l, c < 256) (k : Nat) : ∀ c ∈ l.take k, c < 256 := fun c hc => h c (List.mem_of_mem_take hc)
set_option maxRecDepth 100000 in set_option maxHeartbeats 400000 in
theorem Update_any (K : Nat → Prop) (s : Nat) (v : Value) (l : List Nat) (w : World) (hN : Nib w) (hv : Sl K w v (u8s l)) (hs : s < 4294967296) (hl : ∀ c ∈ l, c < 256) (hm : l.length ≤ 140737488355000) :
    Calls Tryd.prog 20 #[.int .u32 s, v] w fun e w' => e = .returned (.int .u32 (upd s l : Nat)) ∧ w = w' := by
  obtain ⟨a, cap, rfl, h1, h2, h3⟩ := hv.bytes
  have HN := hid hN; have HL := hid hl; have HV := hid h3
  clear hN hl hv h3
  unfold maxLen at h2
  have X0 := not_u32 s hs
  have hr0 : s ^^^ full < 4294967296 := xor_lt (n := 32) hs (by decide)
  have HR0 := hid hr0
  have HU : Hd (upd s l = reg (s ^^^ full) l ^^^ full) := hid rfl
  generalize s ^^^ full = r0 at *
  clear hr0
  generalize hll : l.length = n at *
  have HLL := hid hll; clear hll
  go_enter Tryd.func20, Tryd.ntmps20
  go_wp2_with fail
  go_loop [5, 12] (fun r i => ∃ k : Nat, k ≤ n ∧ i = .int .i64 k ∧ r = .int .u32 (reg r0 (l.take k) : Nat)) (fun _ i => n - (intOf i).toNat)
  case atStart => exact ⟨0, by omega, rfl, by simp [reg]⟩
  case round =>
    obtain ⟨k, hk, rfl, rfl⟩ := hrel
    have hrk : reg r0 (l.take k) < 4294967296 := reg_lt _ HR0.out (take_lt HL.out k)
    have HRK := hid hrk
    by_cases hlt : k < n
    · have hkn : k < l.length := by rw [HLL.out]; exact hlt
      obtain ⟨b, o, rfl, _, _, hc⟩ := HV.out (by omega)
      have hcell := hc k hlt
      have hck : l.getD k 0 < 256 := by simp only [List.getD, List.getElem?_eq_getElem hkn]; exact HL.out _ (List.getElem_mem hkn)
      have HS : Hd (reg r0 (l.take (k + 1)) = feed (reg r0 (l.take k)) (l.getD k 0)) := hid (by rw [reg_take hkn]; simp [List.getD, hkn])
      clear hc
      generalize reg r0 (l.take k) = rk at *
      generalize l.getD k 0 = c at *
      have HCK := hid hck; clear hck hrk
      have hk1 : (k : Int) < n := by omega
      have hk2 : (0 : Int) ≤ (k : Int) := by omega
      go_wp2_with fail
      refine (feed_any rk c _ HN.out HRK.out HCK.out).mono ?_
      rintro e w1 ⟨rfl, rfl⟩
      go_wp2
      go_round
      case rel => exact ⟨k + 1, by omega, by go_num, by rw [HS.out]⟩
      case measure => simp [intOf]; omega
    · have hkn : k = n := by omega
      have X1 := not_u32 _ hrk
      have HE : Hd (upd s l = reg r0 (l.take k) ^^^ full) := hid (by rw [HU.out, hkn, ← HLL.out, List.take_length])
      generalize reg r0 (l.take k) = rk at *
      generalize rk ^^^ full = z at *
      clear hrk
      go_wp2
      go_ret
      exact ⟨ret_int (by rw [HE.out]), rfl⟩
set_option maxRecDepth 100000 in set_option maxHeartbeats 400000 in
theorem Sum_any (K : Nat → Prop) (v : Value) (l : List Nat) (w : World) (hN : Nib w) (hv : Sl K w v (u8s l)) (hl : ∀ c ∈ l, c < 256) (hm : l.length ≤ 140737488355000) :
    Calls Tryd.prog 10 #[v] w fun e w' => e = .returned (.int .u32 (crc l : Nat)) ∧ w = w' := by
  have HN := hid hN; have HL := hid hl; have HV := hid hv
  obtain ⟨a, cap, rfl, _⟩ := hv.bytes
  clear hN hl hv
  generalize hll : l.length = n at *
  have HLL := hid hll; clear hll
  go_enter Tryd.func10, Tryd.ntmps10
  go_wp2_with fail
  refine (Update_any K 0 _ l _ HN.out HV.out (by omega) HL.out (by rw [HLL.out]; exact hm)).mono ?_
  rintro e w1 ⟨rfl, rfl⟩
  go_wp2
  go_ret
  exact ⟨rfl, rfl⟩
end Go.Proofs.YtgfekgceeigdiaaDoor.Cr
namespace Go.Proofs.YtgfekgceeigdiaaDoor.Cr
open Go.RowKit

theorem infoU8 : (Tryd.prog.info? 5).map (fun i => (i.zero, i.size, i.bytes)) = some (some (.int .u8 0), 1, 1) := by kernel_rfl
def NewRet (w : World) (e : TypeId) (xs : List Value) (r : Ending) (w' : World) : Prop := ∃ a n c, r = .returned (.slice a n c) ∧ n = xs.length ∧ Own (fun k => w.heap.size ≤ k) w' e 1 (.slice a n c) n xs ∧ Keeps (fun _ => False) w w'
/-- the first k bytes of a checksum -/
theorem le4_take (s k : Nat) (hk : k < 4) : (le4 s).take (k + 1) = (le4 s).take k ++ [s / 2 ^ (8 * k) % 256] := by
  match k, hk with
  | 0, _ => simp [le4]
  | 1, _ => simp [le4]
  | 2, _ => simp [le4]
  | 3, _ => simp [le4]
set_option maxRecDepth 100000 in set_option maxHeartbeats 1000000 in
theorem bytes_any (s : Nat) (w : World) (hs : s < 4294967296) :
    Calls Tryd.prog 9 #[.int .u32 s] w fun e w' => NewRet w 5 (u8s (le4 s)) e w' := by
  obtain ⟨i0, hi, hz0, hz1, hz2⟩ := info_parts infoU8
  have HS := hid hs; clear hs
  go_enter Tryd.func9, Tryd.ntmps9
  go_wp2_with fail
  go_loopw [3, 5] (fun o i wr => ∃ (k : Nat) (a : Option Addr) (m c : Nat), i = .int .i64 k ∧ o = .slice a m c ∧ k ≤ 4 ∧ Hd (m = k)
      ∧ Hd (Own (fun b => w.heap.size ≤ b) wr 5 1 (.slice a m c) m (u8s ((le4 s).take k))) ∧ Hd (Keeps (fun _ => False) w wr)) (fun _ i _ => 4 - (intOf i).toNat)
  case atStart => exact ⟨0, none, 0, 0, rfl, rfl, by omega, hid rfl, hid (Own.nil _ _ _ _), hid (Keeps.refl _ _)⟩
  case round =>
    obtain ⟨k, a, m, c, rfl, rfl, hk, hm, hown, hkeep⟩ := hrel
    have hsz := hkeep.out.size
    have hm4 : m ≤ 4 := by have := hm.out; omega
    by_cases hlt : k < 4
    · have hcast : ((s / 2 ^ (8 * k) % 256 : Nat) : Int) = (s : Int) / 2 ^ (8 * k) % 256 := by simp
      have HC := hid hcast; clear hcast
      go_wp2_with (at_builtin; refine wpList_append_row rfl _ _ 22 rfl 5 i0 (.int .u8 0) 1 1 Tryd.underlying22 hi hz0 hz1 hz2 rfl (by decide) _ (fun _ => True) _ _ _ _ rfl (hown.out.alloc _) 1 _ rfl (src_one _ _ trivial) (by intro u hu; simp at hu; subst hu; rfl) ?h1 ?h2 ?_)
      case h1 => simp [maxLen]; omega
      case h2 => omega
      intro a1 cap1 w1 hown' hgrow; try intro _
      have H5 := hid hown'
      have HK5 : Hd (Keeps (fun b => w.heap.size ≤ b) wr w1) := hid ((keeps_alloc _ wr _).trans hgrow)
      clear hown' hgrow
      go_wp2
      go_roundw
      case rel =>
        refine ⟨k + 1, a1, m + 1, cap1, by go_num, rfl, by omega, hid (by have := hm.out; omega), hid ?_, hid (hkeep.out.after HK5.out)⟩
        have := H5.out.mono (K' := fun b => w.heap.size ≤ b) (fun b _ hb => by rcases hb with hb | hb <;> omega)
        rw [le4_take s k hlt, u8s_append]
        rw [show u8s [s / 2 ^ (8 * k) % 256] = [Value.int .u8 ((s : Int) / 2 ^ (8 * k) % 256)] by rw [← HC.out]; rfl]
        exact this
      case measure => simp [intOf]; omega
    · have hk4 : k = 4 := by omega
      have HM : Hd (m = 4) := hid (by have := hm.out; omega)
      have HO : Hd (Own (fun b => w.heap.size ≤ b) wr 5 1 (.slice a m c) m (u8s (le4 s))) := hid (by have := hown.out; rw [hk4] at this; exact this)
      clear hk4 hown
      go_wp2
      go_ret
      exact ⟨a, m, c, rfl, by rw [HM.out]; rfl, HO.out, hkeep.out⟩
/-- Grow at the nil slice: room, in a block of the call's own -/
def GrowRet (n : Nat) (w : World) (r : Ending) (w' : World) : Prop := ∃ a c, r = .returned (.slice a 0 c) ∧ Own (fun k => w.heap.size ≤ k) w' 5 1 (.slice a 0 c) 0 [] ∧ Keeps (fun _ => False) w w' ∧ (n = 0 → a = none ∧ c = 0)
set_option maxRecDepth 100000 in set_option maxHeartbeats 1000000 in
theorem Grow_any (n : Nat) (w : World) (hn : n ≤ 140737488355000) : Calls Tryd.prog 88 #[.slice none 0 0, .int .i64 n] w fun e w' => GrowRet n w e w' := by
  obtain ⟨i0, hi, hz0, hz1, hz2⟩ := info_parts infoU8
  by_cases h0 : n = 0
  · subst h0
    go_enter Tryd.func88, Tryd.ntmps88
    go_wp2
    go_ret
    exact ⟨none, 0, rfl, Own.nil _ _ _ _, Keeps.refl _ _, fun _ => ⟨rfl, rfl⟩⟩
  · have hold : (Builtin.firstCells i0.size 0 (.slice none 0 0)).run Tryd.prog w.drew = .ok (#[] : Array Value) w.drew := run_firstCells_none w.drew i0.size 0 0 0
    have hrz : ∀ ty, (Builtin.append_ #[22, 3] ty #[.slice none 0 0, .int .i64 (n : Int)]).run Tryd.prog w =
      .ok (.slice (some ⟨w.heap.size, 0, none⟩) (0 + n) (grownCap w (0 + n) 0 5)) (w.drew.alloc (.cells (([] : List Value).toArray ++ Builtin.zeroCells (Value.int .u8 0).cells n ++ Builtin.zeroCells (Value.int .u8 0).cells (grownCap w (0 + n) 0 5 - (0 + n))) 5)) := fun ty =>
      Lib.run_append_grow_zeros w 22 3 ty 5 i0 (.int .u8 0) .i64 .i64 Tryd.underlying22 Tryd.underlying3 hi hz0 none 0 0 [] hold n (by omega) (by rw [hz1]; omega) (by omega) (by omega) (by rw [hz2]; omega) (by rw [Nat.zero_add]; exact growslice_fits (by omega) (by rw [hz2]; omega))
    have hGn : 0 + n ≤ grownCap w (0 + n) 0 5 := grownCap_ge w _ _ _
    have hG63 := grownCap_le_maxLen w (0 + n) 0 5 (by unfold maxLen; omega)
    generalize grownCap w (0 + n) 0 5 = G at *
    unfold maxLen at hG63
    generalize hcs : (([] : List Value).toArray ++ Builtin.zeroCells (Value.int .u8 0).cells n ++ Builtin.zeroCells (Value.int .u8 0).cells (G - (0 + n))) = cs at *
    have HCS := hid hcs
    clear hcs hold
    have h1 : (0 : Int) < n := by omega
    go_enter Tryd.func88, Tryd.ntmps88
    go_wp2_with (at_builtin; refine Lib.wpList_append_run _ rfl _ _ _ _ rfl _ _ rfl rfl _ _ (hrz _) ?_)
    go_ret
    refine ⟨_, _, rfl, ⟨⟨rfl, .inr ⟨w.heap.size, G, cs, rfl, Nat.zero_le _, ?_, Nat.zero_le _, by unfold maxLen; omega, ?_, by simp⟩⟩, fun k hk => ?_⟩, ?_, fun h => absurd h h0⟩
    · exact (blk_new w cs 5)
    · rw [← HCS.out]; simp [size_zeroCells, Value.cells]; omega
    · simp [Value.ownBlock] at hk; omega
    · repeat (first | (with_reducible assumption) | (with_reducible exact Keeps.refl _ _) | (with_reducible apply Keeps.drewN) | (with_reducible apply Keeps.drew) | (with_reducible apply Keeps.alloc) | refine Keeps.setCell ?_ (by first | (simp; done) | (simp; omega)) _)
theorem Grow_z (z : Int) (w : World) (h0 : 0 ≤ z) (h1 : z ≤ 140737488355000) : Calls Tryd.prog 88 #[.slice none 0 0, .int .i64 z] w fun e w' => GrowRet z.toNat w e w' := by
  obtain ⟨n, rfl⟩ := Int.eq_ofNat_of_zero_le h0
  exact Grow_any n w (by omega)
def cat2 (x y : List Nat) (k : Nat) : List Nat := if k = 0 then [] else if k = 1 then x else x ++ y
set_option maxRecDepth 100000 in set_option maxHeartbeats 1000000 in
theorem Concat_any (K : Nat → Prop) (b : Nat) (v0 v1 : Value) (x y : List Nat) (w : World) (hb0 : w.cell? ⟨b, 0, none⟩ = some v0) (hb1 : w.cell? ⟨b, 1, none⟩ = some v1) (hv0 : Sl K w v0 (u8s x)) (hv1 : Sl K w v1 (u8s y)) (hm : x.length + y.length ≤ 140737488355000) :
    Calls Tryd.prog 82 #[.slice (some ⟨b, 0, none⟩) 2 2] w fun e w' => NewRet w 5 (u8s (x ++ y)) e w' := by
  obtain ⟨i0, hi, hz0, hz1, hz2⟩ := info_parts infoU8
  have HV0 : Hd (Sl (fun b => b < w.heap.size) w v0 (u8s x)) := hid (hv0.mono (fun b h _ => h))
  have HV1 : Hd (Sl (fun b => b < w.heap.size) w v1 (u8s y)) := hid (hv1.mono (fun b h _ => h))
  obtain ⟨a0, c0, rfl, g1, g2, g3⟩ := hv0.bytes
  obtain ⟨a1, c1, rfl, g4, g5, g6⟩ := hv1.bytes
  have hblt := cell_lt hb0
  clear g3 g6 hv0 hv1
  have HB0 := hid hb0; have HB1 := hid hb1
  generalize hx : x.length = n0 at *
  generalize hy : y.length = n1 at *
  have HXL := hid hx; have HYL := hid hy
  clear hx hy g1 g2 g4 g5
  go_enter Tryd.func82, Tryd.ntmps82
  go_wp2_with fail
  go_loop [3, 11] (fun s i => (s = .int .i64 0 ∧ i = .int .i64 0) ∨ (s = .int .i64 n0 ∧ i = .int .i64 1) ∨ (s = .int .i64 (n0 + n1) ∧ i = .int .i64 2)) (fun _ i => 2 - (intOf i).toNat)
  case atStart => exact .inl ⟨rfl, rfl⟩
  case round =>
    rcases hrel with ⟨rfl, rfl⟩ | ⟨rfl, rfl⟩ | ⟨rfl, rfl⟩
    · go_wp2
      go_round
      case rel => exact .inr (.inl ⟨by go_num, rfl⟩)
      case measure => simp [intOf]
    · go_wp2
      go_round
      case rel => exact .inr (.inr ⟨rfl, rfl⟩)
      case measure => simp [intOf]
    · go_wp2_with fail
      refine (Grow_z _ _ (by omega) (by omega)).mono ?_
      rintro e w1 ⟨ag, cg, rfl, ho, hk, _⟩
      have HO := hid ho; have HK := hid hk
      clear ho hk
      go_wp2_with fail
      go_loopw [6, 27] (fun v i wr => ∃ (k : Nat) (a : Option Addr) (m c : Nat), i = .int .i64 k ∧ v = .slice a m c ∧ k ≤ 2 ∧ Hd (m = (cat2 x y k).length) ∧ Hd (Own (fun b => w.heap.size ≤ b) wr 5 1 (.slice a m c) m (u8s (cat2 x y k))) ∧ Hd (Keeps (fun _ => False) w wr)) (fun _ i _ => 2 - (intOf i).toNat)
      case atStart => exact ⟨0, ag, 0, cg, rfl, rfl, by omega, hid rfl, HO, HK⟩
      case round =>
        clear HO HK
        obtain ⟨k, a, m, c, rfl, rfl, hk, hml, hown, hkeep⟩ := hrel
        have hz := hkeep.out.size
        have gb0 := keep_cell hkeep.out (fun h => h) HB0.out
        have gb1 := keep_cell hkeep.out (fun h => h) HB1.out
        have hm1 : m ≤ 140737488355000 := by
          have h1 := hml.out; have h2 := HXL.out; have h3 := HYL.out
          unfold cat2 at h1
          split at h1
          · simp at h1; omega
          · split at h1
            · omega
            · rw [List.length_append] at h1; omega
        by_cases hk2 : k < 2
        · by_cases hk0 : k = 0
          · subst hk0
            have hm0 : m = 0 := hml.out
            subst hm0
            have HSR := hid (HV0.out.keep hkeep.out (fun _ _ _ h => h))
            go_wp2_with (at_builtin; refine wpList_append_row rfl _ _ 22 rfl 5 i0 (.int .u8 0) 1 1 Tryd.underlying22 hi hz0 hz1 hz2 rfl (by decide) _ (fun b => b < w.heap.size) _ _ _ _ rfl hown.out n0 _ rfl (sl_row HSR.out (by rw [u8s_length]; exact HXL.out)) (u8s_one _) ?h1 ?h2 ?_)
            case h1 => simp [maxLen]; omega
            case h2 => omega
            intro a1 cap1 w2 hown' hgrow; try intro _
            have H5 := hid hown'
            have HK5 := hid hgrow
            clear hown' hgrow HSR
            go_wp2
            go_roundw
            case rel =>
              refine ⟨1, a1, n0, cap1, by go_num, rfl, by omega, hid (by have := HXL.out; simp [cat2]; omega), hid ?_, hid (hkeep.out.after HK5.out)⟩
              have := H5.out.mono (K' := fun b => w.heap.size ≤ b) (fun b _ hb => by rcases hb with hb | hb <;> omega)
              simpa [cat2, u8s] using this
            case measure => simp [intOf]
          · obtain rfl : k = 1 := by omega
            have hm0 : m = n0 := by have := hml.out; have := HXL.out; simp [cat2] at *; omega
            subst hm0
            have HSR := hid (HV1.out.keep hkeep.out (fun _ _ _ h => h))
            go_wp2_with (at_builtin; refine wpList_append_row rfl _ _ 22 rfl 5 i0 (.int .u8 0) 1 1 Tryd.underlying22 hi hz0 hz1 hz2 rfl (by decide) _ (fun b => b < w.heap.size) _ _ _ _ rfl hown.out n1 _ rfl (sl_row HSR.out (by rw [u8s_length]; exact HYL.out)) (u8s_one _) ?h1 ?h2 ?_)
            case h1 => simp [maxLen]; omega
            case h2 => omega
            intro a1 cap1 w2 hown' hgrow; try intro _
            have H5 := hid hown'
            have HK5 := hid hgrow
            clear hown' hgrow HSR
            go_wp2
            go_roundw
            case rel =>
              refine ⟨2, a1, m + n1, cap1, by go_num, rfl, by omega, hid (by have := HXL.out; have := HYL.out; simp [cat2]; omega), hid ?_, hid (hkeep.out.after HK5.out)⟩
              have := H5.out.mono (K' := fun b => w.heap.size ≤ b) (fun b _ hb => by rcases hb with hb | hb <;> omega)
              simpa [cat2, u8s] using this
            case measure => simp [intOf]
        · obtain rfl : k = 2 := by omega
          go_wp2
          go_ret
          exact ⟨a, m, c, rfl, by have := hml.out; simpa [cat2] using this, by simpa [cat2] using hown.out, hkeep.out⟩
end Go.Proofs.YtgfekgceeigdiaaDoor.Cr
namespace Go.Proofs.YtgfekgceeigdiaaDoor.Cr
open Go.RowKit
attribute [local go_sem ↓] Go.wp_at_zero Go.wp_at_succ
set_option maxRecDepth 100000 in set_option maxHeartbeats 400000 in
theorem Equal_any (K1 K2 : Nat → Prop) (v1 v2 : Value) (xs ys : List Nat) (w : World) (h1 : Sl K1 w v1 (u8s xs)) (h2 : Sl K2 w v2 (u8s ys)) (hm : xs.length ≤ 140737488355000) :
    Calls Tryd.prog 8 #[v1, v2] w fun e w' => e = .returned (.bool (decide (xs = ys))) ∧ Drawn w w' := by
  obtain ⟨a1, c1, rfl, hc1, hc1m, h1⟩ := h1.bytes
  obtain ⟨a2, c2, rfl, hc2, hc2m, h2⟩ := h2.bytes
  generalize hl1 : xs.length = n at *
  generalize hl2 : ys.length = m at *
  have C1 := hid h1; have C2 := hid h2; clear h1 h2
  have H1 := hid hl1; have H2 := hid hl2; clear hl1 hl2
  by_cases hnm : n = m
  · subst hnm
    go_enter Tryd.func8, Tryd.ntmps8
    go_wp2
    go_loopw [13] (fun i w' => ∃ k : Nat, k ≤ n ∧ i = .int .i64 k ∧ Hd (∀ j, j < k → xs.getD j 0 = ys.getD j 0) ∧ Drawn w w') (fun i _ => n - (intOf i).toNat)
    case atStart => exact ⟨0, by omega, rfl, hid (fun j hj => by omega), Drawn.refl _⟩
    case round =>
      obtain ⟨k, hk, rfl, hag, hdr⟩ := hrel
      by_cases hlt : k < n
      · obtain ⟨b1, o1, rfl, _, _, d1⟩ := C1.out (by omega)
        obtain ⟨b2, o2, rfl, _, _, d2⟩ := C2.out (by omega)
        have e1 := hdr.cell (d1 k hlt); clear d1
        have e2 := hdr.cell (d2 k hlt); clear d2
        generalize hx : xs.getD k 0 = x at *
        generalize hy : ys.getD k 0 = y at *
        have HX := hid hx; have HY := hid hy; clear hx hy
        by_cases he : x = y
        · subst he
          have HA := hid (agree_step 0 xs ys k hag.out (HX.out.trans HY.out.symm)); clear hag
          have hk0 : (0 : Int) ≤ (k : Int) := by omega
          have hk1 : (k : Int) < n := by omega
          go_wp2
          go_quiet (fail)
          go_wp2
          go_roundw
          case rel => exact ⟨k + 1, by omega, by go_num, HA, drawn_n hdr _⟩
          case measure => simp [intOf]; omega
        · have hne : ((x : Int) != (y : Int)) = true := by simp; omega
          have hk0 : (0 : Int) ≤ (k : Int) := by omega
          have hk1 : (k : Int) < n := by omega
          have fin : decide (xs = ys) = false := by
            simp; rintro rfl; exact he (HX.out.symm.trans HY.out)
          have FIN := hid fin; clear fin he
          go_wp2
          go_quiet (fail)
          go_wp2
          go_ret
          exact ⟨ret_bool FIN.out.symm, drawn_n hdr _⟩
      · have : k = n := by omega
        subst this
        have fin : decide (xs = ys) = true := by
          simp; exact agree_all 0 xs ys k H1.out H2.out hag.out
        have FIN := hid fin; clear fin hag
        go_wp2
        go_ret
        exact ⟨ret_bool FIN.out.symm, hdr⟩
  · have hne : ((n : Int) != (m : Int)) = true := by simp; omega
    have fin : decide (xs = ys) = false := by
      simp; rintro rfl; exact hnm (H1.out.symm.trans H2.out)
    have FIN := hid fin; clear fin
    go_enter Tryd.func8, Tryd.ntmps8
    go_wp2
    go_ret
    exact ⟨ret_bool FIN.out.symm, Drawn.refl _⟩

set_option maxRecDepth 100000 in
set_option maxHeartbeats 400000 in
theorem CloneB_any (K : Nat → Prop) (v : Value) (b : List Nat) (w : World) (hv : Sl K w v (u8s b)) (hm : b.length ≤ 140737488355000) :
    Calls Tryd.prog 11 #[v] w fun e w' => NewRet w 5 (u8s b) e w' := by
  obtain ⟨i0, hi, hz0, hz1, hz2⟩ := info_parts infoU8
  have hv0 := hid hv
  have HM := hid hm; clear hm
  have hq : ∀ (w : World) (a : Option Addr) (n c n' c' : Nat), (binOp .eql 22 (.slice a n c) (.slice none n' c')).run Tryd.prog w = .ok (.bool a.isNone) w := fun w a n c n' c' => Lib.run_eql_slice_nil w _ _ a n c n' c' Tryd.underlying22
  rcases hv.bcases with ⟨rfl, rfl⟩ | ⟨bb, cap, rfl⟩
  · clear hv hv0
    go_enter Tryd.func11, Tryd.ntmps11
    go_wp2
    go_ret
    exact ⟨none, 0, 0, rfl, rfl, Own.nil _ _ _ _, Keeps.refl _ _⟩
  · clear hv
    have HS : Hd (Sl K (w.alloc (.cells #[] 5)) (.slice (some bb) b.length cap) (u8s b)) := hid (hv0.out.keep (keeps_alloc (fun _ => False) w (.cells #[] 5)) (fun _ _ _ h => h))
    generalize hbl : b.length = n at *
    have HBL := hid hbl; clear hbl
    have HO : Hd (Own (fun k => w.heap.size ≤ k) (w.alloc (.cells #[] 5)) 5 1 (.slice (some ⟨w.heap.size, 0, none⟩) 0 0) 0 []) :=
      hid ⟨World.ownsRow_lit w #[] 0 (Nat.zero_le _) (Nat.zero_le _) rfl, fun k hk => by injection hk with hk; simp at hk; omega⟩
    go_enter Tryd.func11, Tryd.ntmps11
    go_wp2_with (at_builtin; refine wpList_append_row rfl _ _ 22 rfl 5 i0 (.int .u8 0) 1 1 Tryd.underlying22 hi hz0 hz1 hz2 rfl (by decide) _ K _ _ _ _ rfl HO.out n _ rfl (sl_row HS.out (by simp [HBL.out])) (u8s_one _) ?h1 ?h2 ?_)
    case h1 => have := HM.out; simp [maxLen]; omega
    case h2 => have := HM.out; omega
    intro a1 cap1 w2 hown' hgrow; try intro _
    try simp only [Nat.zero_add, List.nil_append] at hown'
    have H1 := hid hown'; have H2 := hid hgrow; clear hown' hgrow
    go_wp2
    go_ret
    refine ⟨a1, n, cap1, by simp, by simp [HBL.out], ?_, ?_⟩
    · have h1 := H1.out.mono (K' := fun k => w.heap.size ≤ k) (fun b hb hh => by
        rcases hh with hh | hh
        · exact hh
        · omega)
      simpa [HBL.out] using h1
    · exact ((keeps_alloc _ w _).trans' H2.out (fun i hi hs => by omega))

theorem own_sl {w : World} {a : Option Addr} {n c : Nat} {S : Nat → Prop} {xs : List Nat} (h : Own S w 5 1 (.slice a n c) n (u8s xs)) (hn : n = (u8s xs).length) : Sl S w (.slice a n c) (u8s xs) := row_sl h.row hn.symm
set_option maxRecDepth 100000 in set_option maxHeartbeats 1000000 in
theorem Seal_any (K : Nat → Prop) (v : Value) (l : List Nat) (w : World) (hN : Nib w) (hv : Sl K w v (u8s l)) (hl : ∀ c ∈ l, c < 256) (hm : l.length ≤ 140737488354000) :
    Calls Tryd.prog 58 #[v] w fun e w' => NewRet w 5 (u8s (seal_ l)) e w' := by
  have HN := hid hN; have HL := hid hl; have HV := hid (hv.mono (K' := fun b => b < w.heap.size) (fun b h _ => h))
  have HC := hid (crc_lt hl)
  obtain ⟨a, cap, rfl, _⟩ := hv.bytes
  clear hN hl hv
  generalize hll : l.length = n at *
  have HLL := hid hll; clear hll
  go_enter Tryd.func58, Tryd.ntmps58
  go_wp2_with fail
  refine (Sum_any _ _ l _ HN.out HV.out HL.out (by rw [HLL.out]; omega)).mono ?_
  rintro e w1 ⟨rfl, rfl⟩
  go_wp2_with fail
  refine (bytes_any _ _ HC.out).mono ?_
  rintro e w1 ⟨a1, n1, c1, rfl, hn, ho, hk⟩
  have HK1 := hid hk; have HO1 := hid (own_sl ho hn); have zz := hk.size
  clear hn ho hk
  go_wp2_with fail
  generalize hW : World.alloc w1 _ = W
  have B0 : Blk W w1.heap.size #[.slice a n cap, .slice a1 n1 c1] 22 := by rw [← hW]; exact blk_new _ _ _
  have kW : Keeps (fun _ => False) w1 W := by rw [← hW]; exact keeps_alloc _ _ _
  clear hW
  refine (Concat_any (fun b => b < W.heap.size) w1.heap.size _ _ l (le4 (crc l)) _ (blk_cell B0 0) (blk_cell B0 1) (((HV.out.keep HK1.out (fun _ _ _ h => h)).keep kW (fun _ _ _ h => h)).mono (fun b hb _ => hb)) ((HO1.out.keep kW (fun _ _ _ h => h)).mono (fun b hb _ => hb)) (by rw [HLL.out]; simp [le4]; omega)).mono ?_
  rintro e w2 ⟨a2, n2, c2, rfl, hn2, ho2, hk2⟩
  have zk := kW.size
  have HR : Hd (NewRet w 5 (u8s (seal_ l)) (.returned (.slice a2 n2 c2)) w2) := hid ⟨a2, n2, c2, rfl, hn2, ho2.mono (fun b _ hb => by omega), (HK1.out.trans kW).trans hk2⟩
  clear hn2 ho2 hk2 kW B0
  go_wp2
  go_ret
  exact HR.out
/-- what Open hands back -/
def opened (l : List Nat) : List Nat × Int := if l.length < 4 then ([], 6) else if le4 (crc (l.take (l.length - 4))) = l.drop (l.length - 4) then (l.take (l.length - 4), 0) else ([], 8)
def OpenRet (l : List Nat) (w : World) (r : Ending) (w' : World) : Prop := ∃ a n c, r = .returned (.tuple #[.slice a n c, .int .i64 (opened l).2]) ∧ n = (opened l).1.length ∧ Own (fun k => w.heap.size ≤ k) w' 5 1 (.slice a n c) n (u8s (opened l).1) ∧ Keeps (fun _ => False) w w'
theorem opened_short {l : List Nat} (h : l.length < 4) : opened l = ([], 6) := by unfold opened; rw [if_pos h]
theorem opened_yes {l : List Nat} (h : ¬ l.length < 4) (h2 : le4 (crc (l.take (l.length - 4))) = l.drop (l.length - 4)) : opened l = (l.take (l.length - 4), 0) := by unfold opened; rw [if_neg h, if_pos h2]
theorem opened_no {l : List Nat} (h : ¬ l.length < 4) (h2 : ¬ le4 (crc (l.take (l.length - 4))) = l.drop (l.length - 4)) : opened l = ([], 8) := by unfold opened; rw [if_neg h, if_neg h2]
set_option maxRecDepth 100000 in set_option maxHeartbeats 1000000 in
theorem Open_any (K : Nat → Prop) (v : Value) (l : List Nat) (w : World) (hN : Nib w) (hv : Sl K w v (u8s l)) (hl : ∀ c ∈ l, c < 256) (hm : l.length ≤ 140737488354000) :
    Calls Tryd.prog 5 #[v] w fun e w' => OpenRet l w e w' := by
  have HN := hid hN; have HL := hid hl; have HV : Hd (Sl (fun b => b < w.heap.size) w v (u8s l)) := hid (hv.mono (fun b h _ => h))
  obtain ⟨i0, hi, hz0, hz1, hz2⟩ := info_parts infoU8
  obtain ⟨a, cap, rfl, q1, q2, q3⟩ := hv.bytes
  clear hN hl hv q3
  unfold maxLen at q2
  by_cases h4 : l.length < 4
  · have HE := hid (opened_short h4)
    generalize hll : l.length = n at *
    clear hll
    go_enter Tryd.func5, Tryd.ntmps5
    go_wp2
    go_ret2
    refine ⟨none, 0, 0, ?_, by rw [HE.out]; rfl, by rw [HE.out]; exact Own.nil _ _ _ _, Keeps.refl _ _⟩
    rw [HE.out]; rfl
  · obtain ⟨k, hk⟩ : ∃ k, l.length = k + 4 := ⟨l.length - 4, by omega⟩
    have HROW : Row (fun b => b < w.heap.size) w 1 (.slice a l.length cap) l.length (u8s l) := sl_row HV.out (by simp)
    have HT := hid (crc_lt (take_lt HL.out k))
    have HY : Hd (le4 (crc (l.take k)) = l.drop k → opened l = (l.take k, 0)) := hid (fun h => by have := opened_yes h4; rw [hk] at this; exact this h)
    have HNO : Hd (¬ le4 (crc (l.take k)) = l.drop k → opened l = ([], 8)) := hid (fun h => by have := opened_no h4; rw [hk] at this; exact this h)
    have HTL : Hd ((l.take k).length = k) := hid (by rw [List.length_take]; omega)
    have HDL : Hd ((l.drop k).length = 4) := hid (by rw [List.length_drop]; omega)
    have HLT := hid (take_lt HL.out k)
    rw [hk] at HROW HV q1 hm h4 ⊢
    obtain ⟨a2, c2, hcut2, hrow2⟩ := run_cut_to (P := Tryd.prog) (t := 22) Tryd.underlying22 hi hz1 HROW (hh := ((k + 4 : Nat) : Int) - 4) k (by omega) (by omega)
    obtain ⟨a3, c3, hcut3, hrow3⟩ := run_cut_from (P := Tryd.prog) (t := 22) Tryd.underlying22 hi hz1 HROW (lo := ((k + 4 : Nat) : Int) - 4) k (by omega) (by omega)
    have e1 : ((k + 4 : Nat) : Int) - 4 = k := by omega
    have e2 : ((k : Int) + 4) - 4 = k := by omega
    rw [e1] at hcut2 hcut3
    have e3 : k + 4 - k = 4 := by omega
    rw [e3] at hcut3 hrow3
    have S2 : Hd (Sl (fun b => b < w.heap.size) w (.slice a2 k c2) (u8s (l.take k))) := hid (by
      have := hrow2; rw [show (u8s l).take (k * 1) = u8s (l.take k) by simp [u8s, List.map_take]] at this
      exact row_sl this (by rw [u8s_length]; exact HTL.out))
    have S3 : Hd (Sl (fun b => b < w.heap.size) w (.slice a3 4 c3) (u8s (l.drop k))) := hid (by
      have := hrow3; rw [show ((u8s l).drop (k * 1)).take (4 * 1) = u8s (l.drop k) by rw [List.take_of_length_le (by simp; omega)]; simp [u8s, List.map_drop]] at this
      exact row_sl this (by rw [u8s_length]; exact HDL.out))
    clear hrow2 hrow3 HROW hi hz0 hz1 hz2 hk
    have hk9 : k ≤ 140737488354000 := by omega
    by_cases hq : le4 (crc (l.take k)) = l.drop k
    · have HE := hid (HY.out hq)
      have HQ : Hd (decide (le4 (crc (l.take k)) = l.drop k) = true) := hid (decide_eq_true hq)
      clear hq HY HNO
      go_enter Tryd.func5, Tryd.ntmps5
      go_wp2_with fail
      go_region_held3 (fun _ => True) (trivial) (first | (go_at_call 10; refine (Sum_any (fun b => b < w.heap.size) _ (l.take k) _ (by exact HN.out) (by exact S2.out) HLT.out (by rw [HTL.out]; omega)).mono ?_; rintro e w1 ⟨rfl, rfl⟩) | (go_at_call 9; refine (bytes_any _ _ HT.out).mono ?_; rintro e w1 ⟨a1, n1, c1, rfl, hn1, ho1, hk1⟩; replace hn1 := hid hn1; replace ho1 := hid ho1; replace hk1 := hid hk1) | (go_at_call 8; refine (Equal_any (fun b => w.heap.size ≤ b) (fun b => b < w.heap.size) _ _ (le4 (crc (l.take k))) (l.drop k) _ (by exact own_sl ho1.out hn1.out) (by exact (S3.out.keep (Keeps.trans (Keeps.drew (Keeps.refl (fun _ => False) w)) hk1.out) (fun _ _ _ h => h))) (by simp [le4])).mono ?_; rw [HQ.out]; rintro e w2 ⟨rfl, hd2⟩; replace hd2 := hid hd2))
      all_goals
        have HKW : Hd (Keeps (fun _ => False) w w2) := hid ((Keeps.trans (Keeps.drew (Keeps.refl (fun _ => False) w)) hk1.out).trans (drawn_keeps _ hd2.out))
        go_wp2_with fail
        refine (CloneB_any (fun b => b < w.heap.size) _ (l.take k) _ (S2.out.keep HKW.out (fun _ _ _ h => h)) (by rw [HTL.out]; omega)).mono ?_
        rintro e w3 ⟨a4, n4, c4, rfl, hn4, ho4, hk4⟩
        have HR : Hd (OpenRet l w (.returned (.tuple #[.slice a4 n4 c4, .int .i64 0])) w3) := hid ⟨a4, n4, c4, by rw [HE.out], by rw [HE.out]; simpa using hn4, by rw [HE.out]; exact ho4.mono (fun b _ hb => Nat.le_trans HKW.out.size hb), HKW.out.trans hk4⟩
        clear hn4 ho4 hk4
        go_wp2
        go_ret2
        exact HR.out
    · have HE := hid (HNO.out hq)
      have HQ : Hd (decide (le4 (crc (l.take k)) = l.drop k) = false) := hid (decide_eq_false hq)
      clear hq HY HNO
      go_enter Tryd.func5, Tryd.ntmps5
      go_wp2_with fail
      go_region_held3 (fun _ => True) (trivial) (first | (go_at_call 10; refine (Sum_any (fun b => b < w.heap.size) _ (l.take k) _ (by exact HN.out) (by exact S2.out) HLT.out (by rw [HTL.out]; omega)).mono ?_; rintro e w1 ⟨rfl, rfl⟩) | (go_at_call 9; refine (bytes_any _ _ HT.out).mono ?_; rintro e w1 ⟨a1, n1, c1, rfl, hn1, ho1, hk1⟩; replace hn1 := hid hn1; replace ho1 := hid ho1; replace hk1 := hid hk1) | (go_at_call 8; refine (Equal_any (fun b => w.heap.size ≤ b) (fun b => b < w.heap.size) _ _ (le4 (crc (l.take k))) (l.drop k) _ (by exact own_sl ho1.out hn1.out) (by exact (S3.out.keep (Keeps.trans (Keeps.drew (Keeps.refl (fun _ => False) w)) hk1.out) (fun _ _ _ h => h))) (by simp [le4])).mono ?_; rw [HQ.out]; rintro e w2 ⟨rfl, hd2⟩; replace hd2 := hid hd2))
      all_goals
        have HKW : Hd (Keeps (fun _ => False) w w2) := hid ((Keeps.trans (Keeps.drew (Keeps.refl (fun _ => False) w)) hk1.out).trans (drawn_keeps _ hd2.out))
        have HR : Hd (OpenRet l w (.returned (.tuple #[.slice none 0 0, .int .i64 8])) w2) := hid ⟨none, 0, 0, by rw [HE.out], by rw [HE.out]; rfl, by rw [HE.out]; exact Own.nil _ _ _ _, HKW.out⟩
        go_wp2
        go_ret2
        exact HR.out
end Go.Proofs.YtgfekgceeigdiaaDoor.Cr
namespace Go.Proofs.YtgfekgceeigdiaaDoor.Cr
open Go.RowKit
attribute [local go_sem ↓] Go.wp_at_zero Go.wp_at_succ

/-- bytes as a string -/
def str (l : List Nat) : ByteArray := ⟨(l.map UInt8.ofNat).toArray⟩
theorem str_inj {a b : List Nat} (ha : ∀ c ∈ a, c < 256) (hb : ∀ c ∈ b, c < 256) (h : str a = str b) : a = b := by
  have h1 : a.map UInt8.ofNat = b.map UInt8.ofNat := by
    have := congrArg (fun s : ByteArray => s.data.toList) h
    simpa [str] using this
  have h2 : (a.map UInt8.ofNat).map UInt8.toNat = (b.map UInt8.ofNat).map UInt8.toNat := by rw [h1]
  have e : ∀ l : List Nat, (∀ c ∈ l, c < 256) → (l.map UInt8.ofNat).map UInt8.toNat = l := fun l hl => by
    rw [List.map_map]
    conv => rhs; rw [← List.map_id l]
    refine List.map_congr_left fun n hn => ?_
    have := hl n hn
    simp [Function.comp]; omega
  rw [e a ha, e b hb] at h2
  exact h2
/-- string(b) -/
theorem conv_sl {K : Nat → Prop} {w : World} {v : Value} {l : List Nat} (h : Sl K w v (u8s l)) (hl : ∀ c ∈ l, c < 256) : (convert 22 9 v).run Tryd.prog w = .ok (.string (str l)) w := by
  obtain ⟨a, cap, rfl, _, _, hx⟩ := h.bytes
  rcases Nat.eq_zero_or_pos l.length with h0 | h0
  · obtain rfl := List.eq_nil_of_length_eq_zero h0
    cases a with
    | none =>
      rw [run_convert_bytes_string w _ _ 5 none _ _ Tryd.underlying22 Tryd.underlying5 Tryd.underlying9]
      simp [Conv.bytesToString, str, Sem.run_pure]; rfl
    | some x =>
      exact run_convert_bytes_back w _ _ 5 x cap [] Tryd.underlying22 Tryd.underlying5 Tryd.underlying9 (fun j hj => by simp at hj)
  · obtain ⟨b, o, rfl, _, _, hc⟩ := hx h0
    have := run_convert_bytes_back w 22 9 5 ⟨b, o, none⟩ cap (l.map UInt8.ofNat) Tryd.underlying22 Tryd.underlying5 Tryd.underlying9 (fun j hj => by
      have hj' : j < l.length := by simpa using hj
      have h1 := hc j hj'
      rw [show (⟨b, o, none⟩ : Addr).add j = ⟨b, o + j, none⟩ by unfold Addr.add; split <;> simp_all, h1]
      have h2 := hl _ (List.getElem_mem hj')
      simp [List.getD, hj']
      omega)
    simpa [str] using this
end Go.Proofs.YtgfekgceeigdiaaDoor.Cr
namespace Go.Proofs.YtgfekgceeigdiaaDoor.Cr
open Go.RowKit
attribute [local go_sem ↓] Go.wp_at_zero Go.wp_at_succ
theorem ba_loop (bs : ByteArray) : ∀ (n i : Nat) (r : List UInt8), bs.size - i = n → ByteArray.toList.loop bs i r = r.reverse ++ bs.data.toList.drop i := by
  intro n
  induction n with
  | zero =>
    intro i r h
    rw [ByteArray.toList.loop, if_neg (by omega), List.drop_eq_nil_of_le (by show bs.data.toList.length ≤ i; rw [Array.length_toList]; show bs.size ≤ i; omega)]
    simp
  | succ n ih =>
    intro i r h
    have hi : i < bs.size := by omega
    have hi2 : i < bs.data.toList.length := by rw [Array.length_toList]; exact hi
    rw [ByteArray.toList.loop, if_pos hi, ih (i+1) _ (by omega), List.drop_eq_getElem_cons hi2]
    have : bs.get! i = bs.data.toList[i] := by
      have h3 : i < bs.data.size := hi
      show bs.data[i]! = _
      rw [getElem!_pos bs.data i h3]; simp
    rw [this]; simp
theorem ba_inj {a b : ByteArray} (h : a.toList = b.toList) : a = b := by
  have e : ∀ s : ByteArray, s.toList = s.data.toList := fun s => by rw [ByteArray.toList, ba_loop s _ 0 [] rfl]; simp
  rw [e, e] at h
  cases a; cases b; congr; exact Array.toList_inj.mp h

end Go.Proofs.YtgfekgceeigdiaaDoor.Cr
namespace Go.Proofs.YtgfekgceeigdiaaDoor.Cr
open Go.RowKit
attribute [local go_sem ↓] Go.wp_at_zero Go.wp_at_succ

end Go.Proofs.YtgfekgceeigdiaaDoor.Cr
namespace Go.Proofs.YtgfekgceeigdiaaDoor.Cr
open Go.RowKit
attribute [local go_sem ↓] Go.wp_at_zero Go.wp_at_succ

end Go.Proofs.YtgfekgceeigdiaaDoor.Cr
namespace Go.Proofs.YtgfekgceeigdiaaDoor.Cr
open Go.RowKit
attribute [local go_sem ↓] Go.wp_at_zero Go.wp_at_succ
theorem keeps_setCells {S : Nat → Prop} (b : Nat) : ∀ (vs : List Value) (o : Nat) {w w' : World}, Keeps S w w' → S b ∨ w.heap.size ≤ b → Keeps S w (w'.setCells b o vs)
  | [], _, _, _, h, _ => h
  | v :: r, o, _, _, h, hb => keeps_setCells b r (o + 1) (h.setCell hb v) hb
end Go.Proofs.YtgfekgceeigdiaaDoor.Cr
namespace Go.Proofs.YtgfekgceeigdiaaDoor.Cr
open Go.RowKit
attribute [local go_sem ↓] Go.wp_at_zero Go.wp_at_succ
end Go.Proofs.YtgfekgceeigdiaaDoor.Cr
namespace Go.Proofs.YtgfekgceeigdiaaDoor.Cr
open Go.RowKit
attribute [local go_sem ↓] Go.wp_at_zero Go.wp_at_succ
end Go.Proofs.YtgfekgceeigdiaaDoor.Cr
namespace Go.Proofs.YtgfekgceeigdiaaDoor.Cr
open Go.RowKit
attribute [local go_sem ↓] Go.wp_at_zero Go.wp_at_succ
/-- a literal that has been converted to its own type -/
theorem lit_slm (w : World) (l : List Nat) (fr : Nat × Nat) (hm : l.length ≤ 100) : Sl (fun _ => True) (w.alloc (.cells (u8s l).toArray 5 fr)) (.slice (some ⟨w.heap.size, 0, none⟩) l.length l.length) (u8s l) := by
  refine row_sl (n := l.length) ⟨by simp, .inr ⟨_, l.length, rfl, Nat.le_refl _, by unfold maxLen; omega, fun hn => ⟨w.heap.size, 0, rfl, trivial, by simp, fun j hj => ?_⟩⟩⟩ (by simp)
  have hh := heap_alloc_new w (.cells (u8s l).toArray 5 fr)
  have hj2 : j < (u8s l).length := by simp; omega
  have e : (w.alloc (.cells (u8s l).toArray 5 fr)).cell? ⟨w.heap.size, 0 + j, none⟩ = (u8s l).toArray[j]? := by
    unfold World.cell?
    simp only [hh, Nat.zero_add]
    rfl
  rw [e]
  simp [List.getD, List.getElem?_eq_getElem hj2]
theorem conv_lit (w : World) (C : Array Value) (n c : Nat) : (convert 22 22 (.slice (some ⟨w.heap.size, 0, none⟩) n c)).run Tryd.prog (w.alloc (.cells C 5)) = .ok (.slice (some ⟨w.heap.size, 0, none⟩) n c) (w.alloc (.cells C 5 (C.size, C.size + 1))) :=
  Go.Lib.run_convert_bytes_const w _ _ C n c Tryd.underlying22 Tryd.underlying5
theorem cb2 : comb 1 2 0 = 3 := by kernel_rfl
end Go.Proofs.YtgfekgceeigdiaaDoor.Cr
namespace Go.Proofs.YtgfekgceeigdiaaDoor.Cr
open Go.RowKit
attribute [local go_sem ↓] Go.wp_at_zero Go.wp_at_succ
end Go.Proofs.YtgfekgceeigdiaaDoor.Cr
namespace Go.Proofs.YtgfekgceeigdiaaDoor.Cr
open Go.RowKit
attribute [local go_sem ↓] Go.wp_at_zero Go.wp_at_succ
end Go.Proofs.YtgfekgceeigdiaaDoor.Cr
namespace Go.Proofs.YtgfekgceeigdiaaDoor.Cr
open Go.RowKit
attribute [local go_sem ↓] Go.wp_at_zero Go.wp_at_succ
theorem crc_seal {l : List Nat} (hl : ∀ c ∈ l, c < 256) : crc (seal_ l) = 558161692 := (sealed_iff hl (le4_lt _) rfl).mpr rfl
theorem seal_lt {l : List Nat} (hl : ∀ c ∈ l, c < 256) : ∀ c ∈ seal_ l, c < 256 := fun c hc => by
  unfold seal_ at hc
  rcases List.mem_append.mp hc with h | h
  · exact hl c h
  · exact le4_lt _ c h
theorem opened_res {l : List Nat} (hl : ∀ c ∈ l, c < 256) (h4 : ¬ l.length < 4) : ((opened l).2 = 0 ∧ crc l = 558161692) ∨ ((opened l).2 = 8 ∧ crc l ≠ 558161692) := by
  have h := sealed_iff (l := l.take (l.length - 4)) (t := l.drop (l.length - 4)) (fun c hc => hl c (List.mem_of_mem_take hc)) (fun c hc => hl c (List.mem_of_mem_drop hc)) (by rw [List.length_drop]; omega)
  rw [List.take_append_drop] at h
  by_cases hq : le4 (crc (l.take (l.length - 4))) = l.drop (l.length - 4)
  · left; exact ⟨by rw [opened_yes h4 hq], h.mpr hq.symm⟩
  · right; exact ⟨by rw [opened_no h4 hq], fun hc => hq (h.mp hc).symm⟩
end Go.Proofs.YtgfekgceeigdiaaDoor.Cr
namespace Go.Proofs.YtgfekgceeigdiaaDoor.Cr
theorem opened_seal (l : List Nat) : opened (seal_ l) = (l, 0) := by
  have h4 : ¬ (seal_ l).length < 4 := by simp [seal_, le4]
  have e : (seal_ l).length - 4 = l.length := by simp [seal_, le4]
  have e1 : (seal_ l).take ((seal_ l).length - 4) = l := by rw [e]; unfold seal_; simp
  have e2 : (seal_ l).drop ((seal_ l).length - 4) = le4 (crc l) := by rw [e]; unfold seal_; simp
  rw [opened_yes h4 (by rw [e1, e2]), e1]
theorem opened_lt {l : List Nat} (hl : ∀ c ∈ l, c < 256) : ∀ c ∈ (opened l).1, c < 256 := by
  unfold opened
  intro c hc
  split at hc
  · simp at hc
  · split at hc
    · exact hl c (List.mem_of_mem_take hc)
    · simp at hc
end Go.Proofs.YtgfekgceeigdiaaDoor.Cr
namespace Go.Proofs.YtgfekgceeigdiaaDoor.Cr
theorem xor_mul (a b n : Nat) : (a ^^^ b) * 2 ^ n = a * 2 ^ n ^^^ b * 2 ^ n := by
  rw [← Nat.shiftLeft_eq, ← Nat.shiftLeft_eq, ← Nat.shiftLeft_eq, Nat.shiftLeft_xor_distrib]
theorem getD_lt {l : List Nat} (hl : ∀ c ∈ l, c < 256) (j : Nat) : l.getD j 0 < 256 := by
  rcases Nat.lt_or_ge j l.length with h | h
  · have := hl l[j] (List.getElem_mem h)
    simpa [List.getD, h] using this
  · simp [List.getD, List.getElem?_eq_none h]
theorem seal_len (l : List Nat) : (seal_ l).length = l.length + 4 := by simp [seal_, le4]
theorem opened_ok {l : List Nat} (hl : ∀ c ∈ l, c < 256) (h4 : ¬ l.length < 4) (h : crc l = 558161692) : (opened l).2 = 0 := by
  rcases opened_res hl h4 with ⟨h1, _⟩ | ⟨_, h1⟩
  · exact h1
  · exact absurd h h1
theorem opened_bad {l : List Nat} (hl : ∀ c ∈ l, c < 256) (h4 : ¬ l.length < 4) (h : crc l ≠ 558161692) : (opened l).2 = 8 := by
  rcases opened_res hl h4 with ⟨_, h1⟩ | ⟨h1, _⟩
  · exact absurd h1 h
  · exact h1
/-- one burst of changed bits -/
theorem opened_burst {l x : List Nat} (hl : ∀ c ∈ l, c < 256) (hx : ∀ c ∈ x, c < 256) (hlen : x.length = l.length + 4) (p q : Nat) (hq : q < 2 ^ 32) (hp : p ≤ 8 * (l.length + 4)) (hn : num x = num (seal_ l) ^^^ q * 2 ^ p) :
    (opened x).2 = if q = 0 then 0 else 8 := by
  by_cases h0 : q = 0
  · rw [if_pos h0]
    subst h0
    rw [Nat.zero_mul, Nat.xor_zero] at hn
    have : x = seal_ l := num_inj hx (seal_lt hl) (by rw [hlen, seal_len]) hn
    exact opened_ok hx (by omega) (by rw [this]; exact crc_seal hl)
  · rw [if_neg h0]
    refine opened_bad hx (by omega) ?_
    rw [← crc_seal hl]
    exact burst_seen (a := seal_ l) (b := x) (by rw [hlen, seal_len]) p q hq h0 (by rw [seal_len]; exact hp) hn
end Go.Proofs.YtgfekgceeigdiaaDoor.Cr
