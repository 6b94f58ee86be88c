/- The plain laws of the checksum: numbers alone. -/
import Derived.WalkKit
namespace Go.Proofs.YtgeicbjlichdgaaDoor.Cr
open Go.RowKit

theorem xor_half (a b : Nat) : (a ^^^ b) / 2 = a / 2 ^^^ b / 2 := by
  apply Nat.eq_of_testBit_eq
  intro i
  rw [Nat.testBit_xor, ← Nat.testBit_succ, ← Nat.testBit_succ, ← Nat.testBit_succ, Nat.testBit_xor]
theorem xor_odd (a b : Nat) : (a ^^^ b) % 2 = (a % 2 + b % 2) % 2 := by
  have h := Nat.testBit_xor a b 0
  simp only [Nat.testBit_zero] at h
  have h1 : (a ^^^ b) % 2 = 0 ∨ (a ^^^ b) % 2 = 1 := by omega
  have h2 : a % 2 = 0 ∨ a % 2 = 1 := by omega
  have h3 : b % 2 = 0 ∨ b % 2 = 1 := by omega
  rcases h1 with h1 | h1 <;> rcases h2 with h2 | h2 <;> rcases h3 with h3 | h3 <;> simp [h1, h2, h3] at h ⊢
/-- one bit's step of the register -/
def step (r : Nat) : Nat := if r % 2 = 1 then r / 2 ^^^ 3988292384 else r / 2
def steps : Nat → Nat → Nat
  | 0, r => r
  | n + 1, r => steps n (step r)
theorem step_xor (a b : Nat) : step (a ^^^ b) = step a ^^^ step b := by
  unfold step
  rw [xor_odd, xor_half]
  have h2 : a % 2 = 0 ∨ a % 2 = 1 := by omega
  have h3 : b % 2 = 0 ∨ b % 2 = 1 := by omega
  rcases h2 with h2 | h2 <;> rcases h3 with h3 | h3 <;> simp [h2, h3]
  · rw [Nat.xor_assoc]
  · rw [Nat.xor_assoc, Nat.xor_assoc, Nat.xor_comm 3988292384]
  · rw [Nat.xor_assoc, Nat.xor_comm 3988292384, Nat.xor_assoc, Nat.xor_self, Nat.xor_zero]
theorem steps_xor (n : Nat) : ∀ a b : Nat, steps n (a ^^^ b) = steps n a ^^^ steps n b := by
  induction n with
  | zero => intro a b; rfl
  | succ n ih => intro a b; simp only [steps, step_xor, ih]
theorem steps_zero (n : Nat) : steps n 0 = 0 := by
  induction n with
  | zero => rfl
  | succ n ih => simpa [steps, step] using ih
theorem steps_add (m n : Nat) : ∀ r, steps (m + n) r = steps n (steps m r) := by
  induction m with
  | zero => intro r; simp [steps]
  | succ m ih => intro r; rw [Nat.succ_add]; simp only [steps, ih]
theorem step_double (r : Nat) : step (2 * r) = r := by unfold step; rw [if_neg (by omega)]; omega
theorem steps_pow (n : Nat) : ∀ r, steps n (r * 2 ^ n) = r := by
  induction n with
  | zero => intro r; simp [steps]
  | succ n ih => intro r; rw [Nat.pow_succ]; simp only [steps]; rw [show r * (2 ^ n * 2) = 2 * (r * 2 ^ n) by rw [← Nat.mul_assoc, Nat.mul_comm]]; rw [step_double, ih]
theorem xor_lt {a b n : Nat} (ha : a < 2 ^ n) (hb : b < 2 ^ n) : a ^^^ b < 2 ^ n := Nat.xor_lt_two_pow ha hb
theorem step_lt {r : Nat} (h : r < 2 ^ 32) : step r < 2 ^ 32 := by
  unfold step
  split
  · exact xor_lt (by omega) (by decide)
  · omega
theorem steps_lt (n : Nat) : ∀ {r : Nat}, r < 2 ^ 32 → steps n r < 2 ^ 32 := by
  induction n with
  | zero => intro r h; exact h
  | succ n ih => intro r h; exact ih (step_lt h)
theorem top_xor {r : Nat} (h : r < 2 ^ 31) : 2 ^ 31 ≤ r ^^^ 3988292384 := by
  have h1 : (r ^^^ 3988292384).testBit 31 = true := by
    rw [Nat.testBit_xor, Nat.testBit_lt_two_pow h]; decide
  exact Nat.ge_two_pow_of_testBit h1
theorem step_ne {r : Nat} (h : r < 2 ^ 32) (h0 : r ≠ 0) : step r ≠ 0 := by
  unfold step
  split
  · have := top_xor (r := r / 2) (by omega)
    omega
  · omega
theorem steps_ne (n : Nat) : ∀ {r : Nat}, r < 2 ^ 32 → r ≠ 0 → steps n r ≠ 0 := by
  induction n with
  | zero => intro r _ h; exact h
  | succ n ih => intro r h h0; exact ih (step_lt h) (step_ne h h0)
theorem xor_eq_zero' {a b : Nat} (h : a ^^^ b = 0) : a = b := by
  have h2 : a ^^^ b ^^^ b = 0 ^^^ b := by rw [h]
  rw [Nat.xor_assoc, Nat.xor_self, Nat.xor_zero, Nat.zero_xor] at h2
  exact h2
theorem steps_inj (n : Nat) {a b : Nat} (ha : a < 2 ^ 32) (hb : b < 2 ^ 32) (h : steps n a = steps n b) : a = b := by
  have h1 : steps n (a ^^^ b) = 0 := by rw [steps_xor, h, Nat.xor_self]
  by_cases h2 : a ^^^ b = 0
  · exact xor_eq_zero' h2
  · exact absurd h1 (steps_ne n (xor_lt ha hb) h2)

/-- the register after a byte -/
def feed (r c : Nat) : Nat := steps 8 (r ^^^ c)
def reg (r : Nat) (l : List Nat) : Nat := l.foldl feed r
/-- a byte slice as one number, the first byte lowest -/
def num : List Nat → Nat
  | [] => 0
  | c :: l => c ^^^ (num l * 256)
theorem reg_num (l : List Nat) : ∀ r, reg r l = steps (8 * l.length) (r ^^^ num l) := by
  induction l with
  | nil => intro r; simp [reg, num, steps]
  | cons c l ih =>
    intro r
    show reg (feed r c) l = _
    rw [ih, List.length_cons, show 8 * (l.length + 1) = 8 + 8 * l.length by omega, steps_add]
    congr 1
    have e : num (c :: l) = c ^^^ (num l * 256) := rfl
    rw [e]
    unfold feed
    rw [← Nat.xor_assoc, steps_xor 8 (r ^^^ c), show num l * 256 = num l * 2 ^ 8 by rfl, steps_pow]
theorem reg_app (r : Nat) (a b : List Nat) : reg r (a ++ b) = reg (reg r a) b := by simp [reg]
theorem reg_lt (l : List Nat) : ∀ {r : Nat}, r < 2 ^ 32 → (∀ c ∈ l, c < 256) → reg r l < 2 ^ 32 := by
  induction l with
  | nil => intro r h _; exact h
  | cons c l ih =>
    intro r h hc
    refine ih (r := feed r c) (steps_lt 8 (xor_lt h ?_)) (fun x hx => hc x (List.mem_cons_of_mem _ hx))
    have := hc c List.mem_cons_self
    omega
def full : Nat := 4294967295
/-- the checksum behind another one -/
def upd (sum : Nat) (l : List Nat) : Nat := reg (sum ^^^ full) l ^^^ full
def crc (l : List Nat) : Nat := upd 0 l
theorem xx (a b : Nat) : a ^^^ b ^^^ b = a := by rw [Nat.xor_assoc, Nat.xor_self, Nat.xor_zero]
theorem upd_app (s : Nat) (a b : List Nat) : upd s (a ++ b) = upd (upd s a) b := by
  unfold upd; rw [reg_app, xx]
theorem upd_nil (s : Nat) : upd s [] = s := by unfold upd; show (s ^^^ full) ^^^ full = s; exact xx _ _
theorem upd_lt {s : Nat} {l : List Nat} (h : s < 2 ^ 32) (hc : ∀ c ∈ l, c < 256) : upd s l < 2 ^ 32 := xor_lt (reg_lt l (xor_lt h (by decide)) hc) (by decide)
theorem crc_lt {l : List Nat} (hc : ∀ c ∈ l, c < 256) : crc l < 2 ^ 32 := upd_lt (by decide) hc
/-- combined checksums -/
def comb (a b n : Nat) : Nat := steps (8 * n) a ^^^ b
theorem upd_comb (a : Nat) (l : List Nat) : upd a l = comb a (crc l) l.length := by
  unfold upd comb crc upd
  rw [reg_num, reg_num, Nat.zero_xor, Nat.xor_assoc a, steps_xor, Nat.xor_assoc]
theorem crc_app (a b : List Nat) : crc (a ++ b) = comb (crc a) (crc b) b.length := by
  unfold crc; rw [upd_app, upd_comb]; rfl
theorem comb_comb (a b c m n : Nat) : comb (comb a b m) c n = comb a (comb b c n) (m + n) := by
  unfold comb
  rw [steps_xor, ← steps_add, show 8 * m + 8 * n = 8 * (m + n) by omega, Nat.xor_assoc]
theorem comb_zero (a : Nat) : comb a 0 0 = a := by simp [comb, steps]
/-- the four bytes of a checksum -/
def le4 (s : Nat) : List Nat := [s % 256, s / 256 % 256, s / 65536 % 256, s / 16777216 % 256]
theorem xor_disj {c m : Nat} (h : c < 256) : c ^^^ (m * 256) = c + m * 256 := by
  apply Nat.eq_of_testBit_eq
  intro i
  rw [Nat.testBit_xor, show m * 256 = 2 ^ 8 * m by omega, show c + 2 ^ 8 * m = 2 ^ 8 * m + c by omega, Nat.testBit_two_pow_mul_add m (by simpa using h), Nat.testBit_two_pow_mul]
  by_cases hi : i < 8
  · simp [hi, show ¬ 8 ≤ i by omega]
  · have : c < 2 ^ i := Nat.lt_of_lt_of_le (show c < 2 ^ 8 by simpa using h) (Nat.pow_le_pow_right (by omega) (by omega))
    simp [hi, Nat.testBit_lt_two_pow this, show 8 ≤ i by omega]
theorem num_cons {c : Nat} (l : List Nat) (h : c < 256) : num (c :: l) = c + num l * 256 := xor_disj h
theorem num_le4 (s : Nat) (h : s < 2 ^ 32) : num (le4 s) = s := by
  unfold le4
  rw [num_cons _ (by omega), num_cons _ (by omega), num_cons _ (by omega), num_cons _ (by omega)]
  simp only [num]; omega
theorem le4_num {a b c d : Nat} (ha : a < 256) (hb : b < 256) (hc : c < 256) (hd : d < 256) : le4 (num [a, b, c, d]) = [a, b, c, d] := by
  rw [num_cons _ ha, num_cons _ hb, num_cons _ hc, num_cons _ hd]
  simp only [num, le4]
  simp only [List.cons.injEq, and_true]
  refine ⟨by omega, by omega, by omega, by omega⟩
theorem le4_lt (s : Nat) : ∀ c ∈ le4 s, c < 256 := by
  intro c hc; simp [le4] at hc; omega
def seal_ (l : List Nat) : List Nat := l ++ le4 (crc l)
/-- what a slice whose end is its checksum sums to -/
def residue : Nat := 558161692
theorem seal_sum_of (l t : List Nat) (hl : ∀ c ∈ l, c < 256) (ht : t.length = 4) : crc (l ++ t) = steps 32 (crc l ^^^ num t) ^^^ residue := by
  rw [crc_app, ht]
  unfold comb
  have h1 : crc t = steps 32 (num t) ^^^ residue := by
    unfold crc upd
    rw [reg_num, ht, Nat.zero_xor, show 8 * 4 = 32 by rfl, steps_xor, Nat.xor_comm (steps 32 full), Nat.xor_assoc]
    congr 1
  rw [h1, show 8 * 4 = 32 by rfl, steps_xor, Nat.xor_assoc]
theorem num_lt {l : List Nat} (h : ∀ c ∈ l, c < 256) : num l < 2 ^ (8 * l.length) := by
  induction l with
  | nil => simp [num]
  | cons c l ih =>
    have h1 := h c List.mem_cons_self
    have h2 := ih (fun x hx => h x (List.mem_cons_of_mem _ hx))
    rw [num_cons _ h1, List.length_cons, show 8 * (l.length + 1) = 8 * l.length + 8 by omega, Nat.pow_add]
    omega
theorem num_inj : ∀ {a b : List Nat}, (∀ c ∈ a, c < 256) → (∀ c ∈ b, c < 256) → a.length = b.length → num a = num b → a = b
  | [], [], _, _, _, _ => rfl
  | [], _ :: _, _, _, h, _ => by simp at h
  | _ :: _, [], _, _, h, _ => by simp at h
  | x :: a, y :: b, ha, hb, hl, hn => by
    have hx := ha x List.mem_cons_self
    have hy := hb y List.mem_cons_self
    rw [num_cons _ hx, num_cons _ hy] at hn
    have h1 : x = y := by omega
    have h2 : num a = num b := by omega
    rw [h1, num_inj (fun c hc => ha c (List.mem_cons_of_mem _ hc)) (fun c hc => hb c (List.mem_cons_of_mem _ hc)) (by simpa using hl) h2]
/-- a slice is sealed exactly if its checksum is the residue -/
theorem sealed_iff {l t : List Nat} (hl : ∀ c ∈ l, c < 256) (ht : ∀ c ∈ t, c < 256) (h4 : t.length = 4) : crc (l ++ t) = residue ↔ t = le4 (crc l) := by
  have hc := crc_lt hl
  have hn : num t < 2 ^ 32 := by have := num_lt ht; rw [h4] at this; exact this
  rw [seal_sum_of l t hl h4]
  constructor
  · intro h
    have h1 : steps 32 (crc l ^^^ num t) = 0 := by
      have : steps 32 (crc l ^^^ num t) ^^^ residue ^^^ residue = residue ^^^ residue := by rw [h]
      rwa [xx, Nat.xor_self] at this
    have h2 : crc l ^^^ num t = 0 := by
      by_cases h3 : crc l ^^^ num t = 0
      · exact h3
      · exact absurd h1 (steps_ne 32 (xor_lt hc hn) h3)
    have h3 := xor_eq_zero' h2
    exact num_inj ht (le4_lt _) (by simp [le4, h4]) (by rw [num_le4 _ hc, h3])
  · rintro rfl
    rw [num_le4 _ hc, Nat.xor_self, steps_zero, Nat.zero_xor]
/-- the checksum, by the number of the slice -/
theorem crc_num (l : List Nat) : crc l = steps (8 * l.length) (full ^^^ num l) ^^^ full := by
  unfold crc upd; rw [reg_num, Nat.zero_xor]
theorem crc_diff {a b : List Nat} (h : a.length = b.length) : crc a ^^^ crc b = steps (8 * a.length) (num a ^^^ num b) := by
  rw [crc_num, crc_num, ← h, steps_xor, steps_xor, steps_xor]
  generalize steps (8 * a.length) full = F
  generalize steps (8 * a.length) (num a) = x
  generalize steps (8 * a.length) (num b) = y
  rw [Nat.xor_comm F x, Nat.xor_comm F y, Nat.xor_assoc x, Nat.xor_assoc y, Nat.xor_comm y, ← Nat.xor_assoc, xx]
/-- a burst of at most 32 bits is seen -/
theorem burst_seen {a b : List Nat} (h : a.length = b.length) (p q : Nat) (hq : q < 2 ^ 32) (h0 : q ≠ 0) (hp : p ≤ 8 * a.length) (hn : num b = num a ^^^ q * 2 ^ p) : crc b ≠ crc a := by
  intro he
  have h1 := crc_diff h
  rw [he, Nat.xor_self, hn, ← Nat.xor_assoc, Nat.xor_self, Nat.zero_xor, show 8 * a.length = p + (8 * a.length - p) by omega, steps_add, steps_pow] at h1
  exact steps_ne _ hq h0 h1.symm
/-- no step of n brings the register to 1 -/
def far : Nat → Nat → Bool
  | 0, _ => true
  | n + 1, r => (step r != 1) && far n (step r)
theorem far_ne : ∀ (n r : Nat), far n r = true → ∀ d, 1 ≤ d → d ≤ n → steps d r ≠ 1
  | 0, _, _, d, h1, h2 => by omega
  | n + 1, r, h, d, h1, h2 => by
    simp only [far, Bool.and_eq_true, bne_iff_ne] at h
    obtain ⟨d', rfl⟩ : ∃ d', d = d' + 1 := ⟨d - 1, by omega⟩
    rcases Nat.eq_zero_or_pos d' with rfl | h3
    · exact h.1
    · exact far_ne n (step r) h.2 d' h3 (by omega)
theorem far_split (m n r : Nat) (h1 : far m r = true) (h2 : far n (steps m r) = true) : far (m + n) r = true := by
  induction m generalizing r with
  | zero => rw [Nat.zero_add]; exact h2
  | succ m ih =>
    rw [Nat.succ_add]
    simp only [far, Bool.and_eq_true] at h1 ⊢
    exact ⟨h1.1, ih _ h1.2 h2⟩
theorem far_next {m r r' : Nat} (n : Nat) (h1 : far n r = true) (h2 : steps n r = r') (h3 : far m r' = true) : far (n + m) r = true := far_split n m r h1 (by rw [h2]; exact h3)
theorem far_8100 : far 8100 1 = true := by
  have h30 : far 0 3368946581 = true := rfl
  have h29 : far (270 + 0) 2119322576 = true := far_next (m := 0) 270 (by decide +kernel) (by decide +kernel) h30
  have h28 : far (270 + 270) 2954023596 = true := far_next (m := 270) 270 (by decide +kernel) (by decide +kernel) h29
  have h27 : far (270 + 540) 3405487263 = true := far_next (m := 540) 270 (by decide +kernel) (by decide +kernel) h28
  have h26 : far (270 + 810) 1501805597 = true := far_next (m := 810) 270 (by decide +kernel) (by decide +kernel) h27
  have h25 : far (270 + 1080) 2585860430 = true := far_next (m := 1080) 270 (by decide +kernel) (by decide +kernel) h26
  have h24 : far (270 + 1350) 2603042011 = true := far_next (m := 1350) 270 (by decide +kernel) (by decide +kernel) h25
  have h23 : far (270 + 1620) 3170430176 = true := far_next (m := 1620) 270 (by decide +kernel) (by decide +kernel) h24
  have h22 : far (270 + 1890) 4047818687 = true := far_next (m := 1890) 270 (by decide +kernel) (by decide +kernel) h23
  have h21 : far (270 + 2160) 1282488977 = true := far_next (m := 2160) 270 (by decide +kernel) (by decide +kernel) h22
  have h20 : far (270 + 2430) 3607484602 = true := far_next (m := 2430) 270 (by decide +kernel) (by decide +kernel) h21
  have h19 : far (270 + 2700) 3691333592 = true := far_next (m := 2700) 270 (by decide +kernel) (by decide +kernel) h20
  have h18 : far (270 + 2970) 2430826808 = true := far_next (m := 2970) 270 (by decide +kernel) (by decide +kernel) h19
  have h17 : far (270 + 3240) 696627297 = true := far_next (m := 3240) 270 (by decide +kernel) (by decide +kernel) h18
  have h16 : far (270 + 3510) 2229731521 = true := far_next (m := 3510) 270 (by decide +kernel) (by decide +kernel) h17
  have h15 : far (270 + 3780) 2546604831 = true := far_next (m := 3780) 270 (by decide +kernel) (by decide +kernel) h16
  have h14 : far (270 + 4050) 4192334288 = true := far_next (m := 4050) 270 (by decide +kernel) (by decide +kernel) h15
  have h13 : far (270 + 4320) 2883601687 = true := far_next (m := 4320) 270 (by decide +kernel) (by decide +kernel) h14
  have h12 : far (270 + 4590) 1773926285 = true := far_next (m := 4590) 270 (by decide +kernel) (by decide +kernel) h13
  have h11 : far (270 + 4860) 1383955328 = true := far_next (m := 4860) 270 (by decide +kernel) (by decide +kernel) h12
  have h10 : far (270 + 5130) 361581120 = true := far_next (m := 5130) 270 (by decide +kernel) (by decide +kernel) h11
  have h9 : far (270 + 5400) 3401698544 = true := far_next (m := 5400) 270 (by decide +kernel) (by decide +kernel) h10
  have h8 : far (270 + 5670) 2063099261 = true := far_next (m := 5670) 270 (by decide +kernel) (by decide +kernel) h9
  have h7 : far (270 + 5940) 1206478494 = true := far_next (m := 5940) 270 (by decide +kernel) (by decide +kernel) h8
  have h6 : far (270 + 6210) 1526216951 = true := far_next (m := 6210) 270 (by decide +kernel) (by decide +kernel) h7
  have h5 : far (270 + 6480) 4210992099 = true := far_next (m := 6480) 270 (by decide +kernel) (by decide +kernel) h6
  have h4 : far (270 + 6750) 4096698278 = true := far_next (m := 6750) 270 (by decide +kernel) (by decide +kernel) h5
  have h3 : far (270 + 7020) 3101040319 = true := far_next (m := 7020) 270 (by decide +kernel) (by decide +kernel) h4
  have h2 : far (270 + 7290) 3849100645 = true := far_next (m := 7290) 270 (by decide +kernel) (by decide +kernel) h3
  have h1 : far (270 + 7560) 2450080984 = true := far_next (m := 7560) 270 (by decide +kernel) (by decide +kernel) h2
  have h0 : far (270 + 7830) 1 = true := far_next (m := 7830) 270 (by decide +kernel) (by decide +kernel) h1
  exact h0
/-- two different bits are seen -/
theorem two_seen {a b : List Nat} (h : a.length = b.length) (hl : 8 * a.length ≤ 8100) (i k : Nat) (hi : i < 8 * a.length) (hk : k < 8 * a.length) (hne : i ≠ k) (hn : num b = num a ^^^ 2 ^ i ^^^ 2 ^ k) : crc b ≠ crc a := by
  have key : ∀ i k : Nat, i < k → k < 8 * a.length → num b = num a ^^^ 2 ^ i ^^^ 2 ^ k → crc b ≠ crc a := by
    intro i k hik hk hn he
    have h1 := crc_diff h
    rw [he, Nat.xor_self, hn, ← Nat.xor_assoc, ← Nat.xor_assoc, Nat.xor_self, Nat.zero_xor, steps_xor] at h1
    rw [show 8 * a.length = i + (8 * a.length - i) by omega, steps_add, steps_add] at h1
    have e1 : steps i (2 ^ i) = 1 := by have := steps_pow i 1; rwa [Nat.one_mul] at this
    have e2 : steps i (2 ^ k) = 2 ^ (k - i) := by
      have := steps_pow i (2 ^ (k - i))
      rwa [← Nat.pow_add, show k - i + i = k by omega] at this
    rw [e1, e2, ← steps_xor, show 8 * a.length - i = (k - i) + (8 * a.length - k) by omega, steps_add] at h1
    have e3 : steps (k - i) (2 ^ (k - i)) = 1 := by have := steps_pow (k - i) 1; rwa [Nat.one_mul] at this
    rw [steps_xor (k - i), e3] at h1
    have h2 := far_ne _ _ far_8100 (k - i) (by omega) (by omega)
    have hlt : steps (k - i) 1 < 2 ^ 32 := steps_lt _ (by decide)
    refine steps_ne _ (xor_lt hlt (by decide)) (fun h3 => h2 (xor_eq_zero' h3)) h1.symm
  rcases Nat.lt_or_ge i k with h1 | h1
  · exact key i k h1 hk hn
  · exact key k i (by omega) hi (by rw [hn, Nat.xor_assoc, Nat.xor_assoc, Nat.xor_comm (2 ^ i)])
end Go.Proofs.YtgeicbjlichdgaaDoor.Cr
