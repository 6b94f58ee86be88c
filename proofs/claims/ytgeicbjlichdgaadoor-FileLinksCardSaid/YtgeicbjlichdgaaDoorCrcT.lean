/- Flipped bits: plain laws. -/
import Derived.Test.YtgeicbjlichdgaaDoorCrcO
namespace Go.Proofs.YtgeicbjlichdgaaDoor.Cr
theorem xor_mul (a b n : Nat) : (a ^^^ b) * 2 ^ n = a * 2 ^ n ^^^ b * 2 ^ n := by
  rw [← Nat.shiftLeft_eq, ← Nat.shiftLeft_eq, ← Nat.shiftLeft_eq, Nat.shiftLeft_xor_distrib]
def flipped (l : List Nat) (k : Nat) : List Nat := l.set (k / 8) (l.getD (k / 8) 0 ^^^ 2 ^ (k % 8))
theorem flipped_len (l : List Nat) (k : Nat) : (flipped l k).length = l.length := by simp [flipped]
theorem pow8_lt (k : Nat) : 2 ^ (k % 8) < 2 ^ 8 := Nat.pow_lt_pow_right (by decide) (Nat.mod_lt _ (by decide))
theorem getD_lt {l : List Nat} (hl : ∀ c ∈ l, c < 256) (j : Nat) : l.getD j 0 < 256 := by
  rcases Nat.lt_or_ge j l.length with h | h
  · have := hl l[j] (List.getElem_mem h)
    simpa [List.getD, h] using this
  · simp [List.getD, List.getElem?_eq_none h]
theorem flipped_lt {l : List Nat} (hl : ∀ c ∈ l, c < 256) (k : Nat) : ∀ c ∈ flipped l k, c < 256 := by
  intro c hc
  rcases List.mem_or_eq_of_mem_set hc with h | h
  · exact hl c h
  · subst h
    exact xor_lt (n := 8) (getD_lt hl _) (pow8_lt k)
theorem num_flipped : ∀ (l : List Nat) (k : Nat), k < 8 * l.length → num (flipped l k) = num l ^^^ 2 ^ k
  | [], k, h => by simp at h
  | c :: l, k, h => by
    rcases Nat.lt_or_ge k 8 with h8 | h8
    · have e1 : k / 8 = 0 := by omega
      have e2 : k % 8 = k := by omega
      simp only [flipped, e1, e2, List.set_cons_zero, List.getD_cons_zero, num]
      rw [Nat.xor_assoc, Nat.xor_comm (2 ^ k), ← Nat.xor_assoc]
    · obtain ⟨m, rfl⟩ : ∃ m, k = m + 8 := ⟨k - 8, by omega⟩
      have e1 : (m + 8) / 8 = m / 8 + 1 := by omega
      have e2 : (m + 8) % 8 = m % 8 := by omega
      have ih := num_flipped l m (by simp at h; omega)
      have e3 : flipped (c :: l) (m + 8) = c :: flipped l m := by simp [flipped, e1, e2]
      rw [e3]
      simp only [num]
      rw [ih, show (256 : Nat) = 2 ^ 8 from rfl, xor_mul, ← Nat.pow_add, Nat.xor_assoc]
theorem seal_len (l : List Nat) : (seal_ l).length = l.length + 4 := by simp [seal_, le4]
theorem opened_ok {l : List Nat} (hl : ∀ c ∈ l, c < 256) (h4 : ¬ l.length < 4) (h : crc l = 558161692) : (opened l).2 = 0 := by
  rcases opened_res hl h4 with ⟨h1, _⟩ | ⟨_, h1⟩
  · exact h1
  · exact absurd h h1
theorem opened_bad {l : List Nat} (hl : ∀ c ∈ l, c < 256) (h4 : ¬ l.length < 4) (h : crc l ≠ 558161692) : (opened l).2 = 8 := by
  rcases opened_res hl h4 with ⟨_, h1⟩ | ⟨h1, _⟩
  · exact absurd h1 h
  · exact h1
/-- one burst of changed bits -/
theorem opened_burst {l x : List Nat} (hl : ∀ c ∈ l, c < 256) (hx : ∀ c ∈ x, c < 256) (hlen : x.length = l.length + 4) (p q : Nat) (hq : q < 2 ^ 32) (hp : p ≤ 8 * (l.length + 4)) (hn : num x = num (seal_ l) ^^^ q * 2 ^ p) :
    (opened x).2 = if q = 0 then 0 else 8 := by
  by_cases h0 : q = 0
  · rw [if_pos h0]
    subst h0
    rw [Nat.zero_mul, Nat.xor_zero] at hn
    have : x = seal_ l := num_inj hx (seal_lt hl) (by rw [hlen, seal_len]) hn
    exact opened_ok hx (by omega) (by rw [this]; exact crc_seal hl)
  · rw [if_neg h0]
    refine opened_bad hx (by omega) ?_
    rw [← crc_seal hl]
    exact burst_seen (a := seal_ l) (b := x) (by rw [hlen, seal_len]) p q hq h0 (by rw [seal_len]; exact hp) hn
theorem opened_one {l : List Nat} (hl : ∀ c ∈ l, c < 256) (k : Nat) (hk : k < 8 * (l.length + 4)) : (opened (flipped (seal_ l) k)).2 = 8 := by
  have := opened_burst hl (flipped_lt (seal_lt hl) k) (by rw [flipped_len, seal_len]) k 1 (by decide) (by omega) (by rw [num_flipped _ _ (by rw [seal_len]; exact hk), Nat.one_mul])
  rw [if_neg (by decide)] at this
  exact this
theorem opened_two {l : List Nat} (hl : ∀ c ∈ l, c < 256) (hm : l.length ≤ 1000) (i k : Nat) (hi : i < 8 * (l.length + 4)) (hk : k < 8 * (l.length + 4)) : (opened (flipped (flipped (seal_ l) i) k)).2 = if i = k then 0 else 8 := by
  have hlt := flipped_lt (flipped_lt (seal_lt hl) i) k
  have hlen : (flipped (flipped (seal_ l) i) k).length = l.length + 4 := by rw [flipped_len, flipped_len, seal_len]
  have hn : num (flipped (flipped (seal_ l) i) k) = num (seal_ l) ^^^ 2 ^ i ^^^ 2 ^ k := by
    rw [num_flipped _ _ (by rw [flipped_len, seal_len]; exact hk), num_flipped _ _ (by rw [seal_len]; exact hi)]
  by_cases h : i = k
  · rw [if_pos h]
    subst h
    rw [Nat.xor_assoc, Nat.xor_self, Nat.xor_zero] at hn
    have : flipped (flipped (seal_ l) i) i = seal_ l := num_inj hlt (seal_lt hl) (by rw [hlen, seal_len]) hn
    rw [this]
    exact opened_ok (seal_lt hl) (by rw [seal_len]; omega) (crc_seal hl)
  · rw [if_neg h]
    refine opened_bad hlt (by omega) ?_
    rw [← crc_seal hl]
    exact two_seen (a := seal_ l) (by rw [hlen, seal_len]) (by rw [seal_len]; omega) i k (by rw [seal_len]; exact hi) (by rw [seal_len]; exact hk) h hn
/-- the next bit of a pattern -/
theorem mod_succ (p k : Nat) : p % 2 ^ (k + 1) = p % 2 ^ k + 2 ^ k * (p / 2 ^ k % 2) := by rw [Nat.pow_succ, Nat.mod_mul]
theorem bit_set (p k f : Nat) (h : p / 2 ^ k % 2 = 1) : (p % 2 ^ k * 2 ^ f) ^^^ 2 ^ (f + k) = p % 2 ^ (k + 1) * 2 ^ f := by
  rw [mod_succ, h, Nat.mul_one, Nat.pow_add, Nat.mul_comm (2 ^ f) (2 ^ k), ← xor_mul]
  congr 1
  have hlt : p % 2 ^ k < 2 ^ k := Nat.mod_lt _ (Nat.two_pow_pos k)
  rw [Nat.add_comm, show 2 ^ k + p % 2 ^ k = 2 ^ k * 1 + p % 2 ^ k by omega, Nat.two_pow_add_eq_or_of_lt hlt 1, Nat.mul_one]
  apply Nat.eq_of_testBit_eq
  intro j
  rw [Nat.testBit_xor, Nat.testBit_or, Nat.testBit_two_pow]
  by_cases hj : k = j
  · subst hj; simp [Nat.testBit_lt_two_pow hlt]
  · simp [hj]
theorem bit_clear (p k : Nat) (h : p / 2 ^ k % 2 ≠ 1) : p % 2 ^ (k + 1) = p % 2 ^ k := by
  rw [mod_succ, show p / 2 ^ k % 2 = 0 by omega]; omega
theorem bit_pos (p k : Nat) (h : p / 2 ^ k % 2 = 1) : p % 2 ^ (k + 1) ≠ 0 := by
  rw [mod_succ, h]
  have := Nat.two_pow_pos k
  omega
end Go.Proofs.YtgeicbjlichdgaaDoor.Cr
