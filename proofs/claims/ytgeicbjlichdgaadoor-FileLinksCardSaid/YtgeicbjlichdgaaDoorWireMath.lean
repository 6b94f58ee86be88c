/- The plain mathematics of the wire encoding: no program in sight. -/
namespace Go.Proofs.YtgeicbjlichdgaaDoor.Wi

def enc (n : Nat) : List Nat := if n < 128 then [n] else (n % 128 + 128) :: enc (n / 128)
theorem enc_small {n : Nat} (h : n < 128) : enc n = [n] := by rw [enc, if_pos h]
theorem enc_big {n : Nat} (h : ¬ n < 128) : enc n = (n % 128 + 128) :: enc (n / 128) := by rw [enc, if_neg h]
theorem enc_length (j : Nat) : ∀ n, n < 128 ^ (j + 1) → (enc n).length ≤ j + 1 := by
  induction j with
  | zero => intro n h; rw [enc_small (by simpa using h)]; simp
  | succ j ih =>
    intro n h
    by_cases hn : n < 128
    · rw [enc_small hn]; simp
    · rw [enc_big hn]
      have := ih (n / 128) (by rw [Nat.pow_succ] at h; omega)
      simp; omega
theorem enc_len10 {n : Nat} (h : n ≤ 18446744073709551615) : (enc n).length ≤ 10 := enc_length 9 n (by omega)
theorem enc_pos (n : Nat) : 0 < (enc n).length := by rw [enc]; split <;> simp
theorem enc_lt (n : Nat) : ∀ c ∈ enc n, c < 256 := by
  induction n using Nat.strongRecOn with
  | _ n ih =>
    by_cases h : n < 128
    · rw [enc_small h]; simp; omega
    · rw [enc_big h]
      intro c hc
      rcases List.mem_cons.1 hc with rfl | hc
      · omega
      · exact ih (n / 128) (by omega) c hc

def zig (n : Int) : Nat := if 0 ≤ n then (2 * n).toNat else (-2 * n - 1).toNat
def zag (u : Nat) : Int := if u % 2 = 0 then ((u / 2 : Nat) : Int) else -((u / 2 : Nat) : Int) - 1
theorem zag_zig (n : Int) : zag (zig n) = n := by unfold zag zig; split <;> split <;> omega
theorem zig_zag (u : Nat) : zig (zag u) = u := by unfold zag zig; split <;> split <;> omega
theorem zig_le {n : Int} (h1 : -9223372036854775808 ≤ n) (h2 : n ≤ 9223372036854775807) : zig n ≤ 18446744073709551615 := by unfold zig; split <;> omega
theorem zag_range {u : Nat} (h : u ≤ 18446744073709551615) : -9223372036854775808 ≤ zag u ∧ zag u ≤ 9223372036854775807 := by unfold zag; split <;> omega

def encI (n : Int) : List Nat := enc (zig n)
def encB (b : List Nat) : List Nat := enc b.length ++ b
def encL (l : List Int) : List Nat := enc l.length ++ l.flatMap encI

/-- the first number: error, rest, number -/
def rdU : Nat → Nat → List Nat → Int × List Nat × Nat
  | _, _, [] => (6, [], 0)
  | k, acc, c :: r =>
    if (k = 9 ∧ c ≠ 1) ∨ (0 < k ∧ c = 0) then (7, [], 0)
    else if c < 128 then (0, r, acc + c % 128 * 128 ^ k) else rdU (k + 1) (acc + c % 128 * 128 ^ k) r

/-- a reader's state: the error, and what is left -/
abbrev St := Int × List Nat
def sU (s : St) : St × Nat := if s.1 = 0 then (((rdU 0 0 s.2).1, (rdU 0 0 s.2).2.1), (rdU 0 0 s.2).2.2) else (s, 0)
def sI (s : St) : St × Int := ((sU s).1, zag (sU s).2)
def sSize (most : Int) (s : St) : St × Nat :=
  if (sU s).1.1 = 0 then (if most < 0 ∨ most < (sU s).2 then ((2, (sU s).1.2), 0) else sU s) else ((sU s).1, 0)
def sB (most : Int) (s : St) : St × List Nat :=
  if (sSize most s).1.1 = 0 then
    (if (sSize most s).1.2.length < (sSize most s).2 then ((6, (sSize most s).1.2), []) else ((0, (sSize most s).1.2.drop (sSize most s).2), (sSize most s).1.2.take (sSize most s).2))
  else ((sSize most s).1, [])
def sLoop : Nat → St → List Int → St × List Int
  | 0, s, acc => (s, acc)
  | n + 1, s, acc => if s.1 = 0 then sLoop n (sI s).1 (acc ++ [(sI s).2]) else (s, acc)
def sLs (most : Int) (s : St) : St × List Int := sLoop (sSize most s).2 (sSize most s).1 []
def sL (most : Int) (s : St) : St × List Int := if (sLs most s).1.1 = 0 then sLs most s else ((sLs most s).1, [])
def sEnd (s : St) : Int := if s.1 = 0 ∧ 0 < s.2.length then 7 else s.1

def sFail (s : St) (c : Int) : St := if s.1 = 0 then (c, s.2) else s
/-- two states that nobody can tell apart -/
def SEq (s t : St) : Prop := s.1 = t.1 ∧ (s.1 = 0 → s.2 = t.2)
theorem SEq.refl (s : St) : SEq s s := ⟨rfl, fun _ => rfl⟩

theorem sU_err {s : St} (h : s.1 ≠ 0) : sU s = (s, 0) := by simp [sU, h]
theorem sI_err {s : St} (h : s.1 ≠ 0) : sI s = (s, 0) := by simp [sI, sU_err h, zag]
theorem sSize_err (most : Int) {s : St} (h : s.1 ≠ 0) : sSize most s = (s, 0) := by simp [sSize, sU_err h, h]
theorem sB_err (most : Int) {s : St} (h : s.1 ≠ 0) : sB most s = (s, []) := by simp [sB, sSize_err most h, h]
theorem sL_err (most : Int) {s : St} (h : s.1 ≠ 0) : sL most s = (s, []) := by simp [sL, sLs, sLoop, sSize_err most h, h]

/-- facts on rdU: length of the rest, size of the number -/
theorem rdU_rest (l : List Nat) : ∀ k acc, (rdU k acc l).2.1.length ≤ l.length := by
  induction l with
  | nil => intro k acc; simp [rdU]
  | cons c r ih =>
    intro k acc
    rw [rdU]
    split
    · simp
    · split
      · simp
      · have := ih (k + 1) (acc + c % 128 * 128 ^ k); simp; omega
theorem rdU_rest_lt (l : List Nat) : ∀ k acc, l ≠ [] → (rdU k acc l).2.1.length < l.length := by
  intro k acc h
  cases l with
  | nil => exact absurd rfl h
  | cons c r =>
    rw [rdU]
    split
    · simp
    · split
      · simp
      · have := rdU_rest r (k + 1) (acc + c % 128 * 128 ^ k); simp; omega
theorem rdU_suffix (l : List Nat) : ∀ k acc, (rdU k acc l).1 = 0 → ∃ pre, l = pre ++ (rdU k acc l).2.1 := by
  induction l with
  | nil => intro k acc h; simp [rdU] at h
  | cons c r ih =>
    intro k acc h
    rw [rdU] at h ⊢
    split at h
    · simp at h
    · rename_i h1
      rw [if_neg h1]
      split at h
      · rename_i h2; rw [if_pos h2]; exact ⟨[c], rfl⟩
      · rename_i h2
        rw [if_neg h2]
        obtain ⟨pre, hp⟩ := ih _ _ h
        exact ⟨c :: pre, by rw [List.cons_append, ← hp]⟩
theorem rdU_lt (l : List Nat) : ∀ k acc, k ≤ 9 → acc < 128 ^ k → (rdU k acc l).2.2 < 18446744073709551616 := by
  induction l with
  | nil => intro k acc _ _; simp [rdU]
  | cons c r ih =>
    intro k acc hk hacc
    rw [rdU]
    split
    · simp
    · rename_i h1
      have hc : c % 128 ≤ 127 := by omega
      have hm : c % 128 * 128 ^ k ≤ 127 * 128 ^ k := Nat.mul_le_mul_right _ hc
      by_cases h9 : k = 9
      · subst h9
        have : c = 1 := by omega
        subst this
        simp; omega
      · have hp : 128 ^ (k + 1) ≤ 128 ^ 9 := Nat.pow_le_pow_right (by decide) (by omega)
        have hs : acc + c % 128 * 128 ^ k < 128 ^ (k + 1) := by rw [Nat.pow_succ]; omega
        split
        · simp; have : (128 : Nat) ^ 9 = 9223372036854775808 := by decide
          omega
        · exact ih _ _ (by omega) hs
theorem rdU_err_codes (l : List Nat) : ∀ k acc, (rdU k acc l).1 = 0 ∨ (rdU k acc l).1 = 6 ∨ (rdU k acc l).1 = 7 := by
  induction l with
  | nil => intro k acc; simp [rdU]
  | cons c r ih => intro k acc; rw [rdU]; split; · simp
                   split; · simp
                   exact ih _ _
theorem rdU_err_zero (l : List Nat) : ∀ k acc, (rdU k acc l).1 ≠ 0 → (rdU k acc l).2.2 = 0 := by
  induction l with
  | nil => intro k acc; simp [rdU]
  | cons c r ih => intro k acc; rw [rdU]; split; · simp
                   split; · simp
                   exact ih _ _
theorem sU_lt (s : St) : (sU s).2 ≤ 18446744073709551615 := by
  unfold sU; split
  · have := rdU_lt s.2 0 0 (by omega) (by simp); simp; omega
  · simp
theorem sU_err_zero (s : St) (h : (sU s).1.1 ≠ 0) : (sU s).2 = 0 := by
  unfold sU at *; split
  · rename_i h0; rw [if_pos h0] at h; exact rdU_err_zero _ _ _ h
  · rfl
theorem sSize_le (most : Int) (s : St) : (sSize most s).2 = 0 ∨ ((sSize most s).1.1 = 0 ∧ ((sSize most s).2 : Int) ≤ most) := by
  unfold sSize; split
  · split
    · simp
    · right; rename_i h1 h2; exact ⟨h1, by omega⟩
  · simp

theorem sU_rest (s : St) : (sU s).1.2.length ≤ s.2.length := by
  unfold sU; split
  · exact rdU_rest _ _ _
  · exact Nat.le_refl _
theorem sI_rest {s : St} (h0 : s.1 = 0) (h : (sI s).1.1 = 0) : (sI s).1.2.length + 1 ≤ s.2.length := by
  unfold sI sU at *
  rw [if_pos h0] at *
  have hne : s.2 ≠ [] := by intro hn; simp only at h; rw [hn] at h; simp [rdU] at h
  exact rdU_rest_lt _ _ _ hne
theorem sSize_rest (most : Int) (s : St) : (sSize most s).1.2.length ≤ s.2.length := by
  have := sU_rest s
  unfold sSize; split
  · split <;> exact this
  · exact this
theorem sLoop_one {n : Nat} {s : St} {acc : List Int} (h : s.1 = 0) : sLoop (n + 1) s acc = sLoop n (sI s).1 (acc ++ [(sI s).2]) := by rw [sLoop, if_pos h]
theorem sLoop_err {n : Nat} {s : St} {acc : List Int} (h : s.1 ≠ 0) : sLoop n s acc = (s, acc) := by cases n <;> simp [sLoop, h]
theorem sI_range (s : St) : -9223372036854775808 ≤ (sI s).2 ∧ (sI s).2 ≤ 9223372036854775807 := zag_range (sU_lt s)
/-- reading what was written -/
theorem rdU_enc (r : List Nat) (n : Nat) : ∀ k acc, k ≤ 9 → n * 128 ^ k < 18446744073709551616 → (0 < k → 0 < n) → rdU k acc (enc n ++ r) = (0, r, acc + n * 128 ^ k) := by
  induction n using Nat.strongRecOn with
  | _ n ih =>
    intro k acc hk hn hpos
    by_cases h : n < 128
    · rw [enc_small h, List.cons_append, List.nil_append, rdU, if_neg, if_pos h, Nat.mod_eq_of_lt h]
      rintro (⟨h9, h1⟩ | ⟨h0, h1⟩)
      · subst h9
        have : (128 : Nat) ^ 9 = 9223372036854775808 := by decide
        rw [this] at hn
        have := hpos (by omega)
        omega
      · have := hpos h0; omega
    · have hk9 : k ≠ 9 := by
        rintro rfl
        have : (128 : Nat) ^ 9 = 9223372036854775808 := by decide
        rw [this] at hn
        omega
      rw [enc_big h, List.cons_append, rdU, if_neg (by omega), if_neg (by omega)]
      have hdm : n * 128 ^ k = (n / 128) * 128 ^ (k + 1) + (n % 128) * 128 ^ k := by
        rw [Nat.pow_succ, ← Nat.mul_assoc, Nat.mul_right_comm, ← Nat.add_mul]
        congr 1; omega
      rw [ih (n / 128) (by omega) (k + 1) _ (by omega) (by omega) (fun _ => by omega)]
      rw [hdm]
      have : (n % 128 + 128) % 128 = n % 128 := by omega
      rw [this, Nat.add_assoc]
      simp [Nat.add_comm]
theorem sU_enc (r : List Nat) {n : Nat} (h : n ≤ 18446744073709551615) : sU (0, enc n ++ r) = ((0, r), n) := by
  have := rdU_enc r n 0 0 (by omega) (by simp; omega) (by omega)
  simp [sU, this]
/-- .. and nothing else is read -/
theorem rdU_canon (l : List Nat) : ∀ k acc, k ≤ 9 → (∀ c ∈ l, c < 256) → (rdU k acc l).1 = 0 → ∃ m, l = enc m ++ (rdU k acc l).2.1 ∧ (rdU k acc l).2.2 = acc + m * 128 ^ k ∧ (0 < k → 0 < m) := by
  induction l with
  | nil => intro k acc _ _ h; simp [rdU] at h
  | cons c r ih =>
    intro k acc hk hl h
    rw [rdU] at h ⊢
    split at h
    · simp at h
    · rename_i h1
      rw [if_neg h1]
      split at h
      · rename_i h2
        rw [if_pos h2]
        exact ⟨c, by rw [enc_small h2]; rfl, by rw [Nat.mod_eq_of_lt h2], fun h0 => by omega⟩
      · rename_i h2
        rw [if_neg h2]
        obtain ⟨m, g1, g2, g3⟩ := ih (k + 1) _ (by omega) (fun x hx => hl x (List.mem_cons_of_mem _ hx)) h
        have hc := hl c List.mem_cons_self
        have hm := g3 (by omega)
        refine ⟨m * 128 + c % 128, ?_, ?_, fun _ => by omega⟩
        · rw [enc_big (by omega), List.cons_append, show (m * 128 + c % 128) / 128 = m by omega, ← g1]
          congr 1; omega
        · rw [g2, Nat.add_mul, Nat.pow_succ, Nat.mul_comm (128 ^ k) 128, Nat.mul_assoc m]
          omega
theorem sU_canon {l : List Nat} (hl : ∀ c ∈ l, c < 256) (h : (sU (0, l)).1.1 = 0) : l = enc (sU (0, l)).2 ++ (sU (0, l)).1.2 := by
  simp only [sU, if_true] at h ⊢
  obtain ⟨m, g1, g2, _⟩ := rdU_canon l 0 0 (by omega) hl h
  simp at g2
  rw [g2]; exact g1
/-- a proper prefix is too short -/
theorem rdU_cut (n : Nat) : ∀ (k acc j : Nat), k ≤ 9 → n * 128 ^ k < 18446744073709551616 → j < (enc n).length → rdU k acc ((enc n).take j) = (6, [], 0) := by
  induction n using Nat.strongRecOn with
  | _ n ih =>
    intro k acc j hk hn hj
    cases j with
    | zero => simp [rdU]
    | succ j =>
      by_cases h : n < 128
      · rw [enc_small h] at hj; simp at hj
      · have hk9 : k ≠ 9 := by
          rintro rfl
          have : (128 : Nat) ^ 9 = 9223372036854775808 := by decide
          rw [this] at hn
          omega
        rw [enc_big h] at hj ⊢
        rw [List.take_succ_cons, rdU, if_neg (by omega), if_neg (by omega)]
        have hdm : n * 128 ^ k = (n / 128) * 128 ^ (k + 1) + (n % 128) * 128 ^ k := by
          rw [Nat.pow_succ, ← Nat.mul_assoc, Nat.mul_right_comm, ← Nat.add_mul]
          congr 1; omega
        exact ih (n / 128) (by omega) (k + 1) _ j (by omega) (by omega) (by simpa using hj)
end Go.Proofs.YtgeicbjlichdgaaDoor.Wi
