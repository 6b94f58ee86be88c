/- Custody: WireMath, WireW, WireR, WireS, WireB, WirePk: walks and plain facts. -/
import Derived.Test.YtgfekgceeigdiaaDoorProg
import Derived.Test.YtgfekgceeigdiaaDoorBaseAll
import Derived.StillTailTactics
namespace Go.Proofs.YtgfekgceeigdiaaDoor.Wi

def enc (n : Nat) : List Nat := if n < 128 then [n] else (n % 128 + 128) :: enc (n / 128)
theorem enc_small {n : Nat} (h : n < 128) : enc n = [n] := by rw [enc, if_pos h]
theorem enc_big {n : Nat} (h : ¬ n < 128) : enc n = (n % 128 + 128) :: enc (n / 128) := by rw [enc, if_neg h]
theorem enc_length (j : Nat) : ∀ n, n < 128 ^ (j + 1) → (enc n).length ≤ j + 1 := by
  induction j with
  | zero => intro n h; rw [enc_small (by simpa using h)]; simp
  | succ j ih =>
    intro n h
    by_cases hn : n < 128
    · rw [enc_small hn]; simp
    · rw [enc_big hn]
      have := ih (n / 128) (by rw [Nat.pow_succ] at h; omega)
      simp; omega
theorem enc_len10 {n : Nat} (h : n ≤ 18446744073709551615) : (enc n).length ≤ 10 := enc_length 9 n (by omega)
theorem enc_pos (n : Nat) : 0 < (enc n).length := by rw [enc]; split <;> simp
theorem enc_lt (n : Nat) : ∀ c ∈ enc n, c < 256 := by
  induction n using Nat.strongRecOn with
  | _ n ih =>
    by_cases h : n < 128
    · rw [enc_small h]; simp; omega
    · rw [enc_big h]
      intro c hc
      rcases List.mem_cons.1 hc with rfl | hc
      · omega
      · exact ih (n / 128) (by omega) c hc

def zig (n : Int) : Nat := if 0 ≤ n then (2 * n).toNat else (-2 * n - 1).toNat
def zag (u : Nat) : Int := if u % 2 = 0 then ((u / 2 : Nat) : Int) else -((u / 2 : Nat) : Int) - 1
theorem zag_zig (n : Int) : zag (zig n) = n := by unfold zag zig; split <;> split <;> omega
theorem zig_le {n : Int} (h1 : -9223372036854775808 ≤ n) (h2 : n ≤ 9223372036854775807) : zig n ≤ 18446744073709551615 := by unfold zig; split <;> omega
def encI (n : Int) : List Nat := enc (zig n)
def encB (b : List Nat) : List Nat := enc b.length ++ b
/-- the first number: error, rest, number -/
def rdU : Nat → Nat → List Nat → Int × List Nat × Nat
  | _, _, [] => (6, [], 0)
  | k, acc, c :: r =>
    if (k = 9 ∧ c ≠ 1) ∨ (0 < k ∧ c = 0) then (7, [], 0)
    else if c < 128 then (0, r, acc + c % 128 * 128 ^ k) else rdU (k + 1) (acc + c % 128 * 128 ^ k) r

/-- a reader's state: the error, and what is left -/
abbrev St := Int × List Nat
def sU (s : St) : St × Nat := if s.1 = 0 then (((rdU 0 0 s.2).1, (rdU 0 0 s.2).2.1), (rdU 0 0 s.2).2.2) else (s, 0)
def sI (s : St) : St × Int := ((sU s).1, zag (sU s).2)
def sSize (most : Int) (s : St) : St × Nat :=
  if (sU s).1.1 = 0 then (if most < 0 ∨ most < (sU s).2 then ((2, (sU s).1.2), 0) else sU s) else ((sU s).1, 0)
def sB (most : Int) (s : St) : St × List Nat :=
  if (sSize most s).1.1 = 0 then
    (if (sSize most s).1.2.length < (sSize most s).2 then ((6, (sSize most s).1.2), []) else ((0, (sSize most s).1.2.drop (sSize most s).2), (sSize most s).1.2.take (sSize most s).2))
  else ((sSize most s).1, [])
def sEnd (s : St) : Int := if s.1 = 0 ∧ 0 < s.2.length then 7 else s.1

/-- two states that nobody can tell apart -/
def SEq (s t : St) : Prop := s.1 = t.1 ∧ (s.1 = 0 → s.2 = t.2)
theorem SEq.refl (s : St) : SEq s s := ⟨rfl, fun _ => rfl⟩

theorem sU_err {s : St} (h : s.1 ≠ 0) : sU s = (s, 0) := by simp [sU, h]
theorem sI_err {s : St} (h : s.1 ≠ 0) : sI s = (s, 0) := by simp [sI, sU_err h, zag]
theorem sSize_err (most : Int) {s : St} (h : s.1 ≠ 0) : sSize most s = (s, 0) := by simp [sSize, sU_err h, h]
theorem sB_err (most : Int) {s : St} (h : s.1 ≠ 0) : sB most s = (s, []) := by simp [sB, sSize_err most h, h]
theorem rdU_lt (l : List Nat) : ∀ k acc, k ≤ 9 → acc < 128 ^ k → (rdU k acc l).2.2 < 18446744073709551616 := by
  induction l with
  | nil => intro k acc _ _; simp [rdU]
  | cons c r ih =>
    intro k acc hk hacc
    rw [rdU]
    split
    · simp
    · rename_i h1
      have hc : c % 128 ≤ 127 := by omega
      have hm : c % 128 * 128 ^ k ≤ 127 * 128 ^ k := Nat.mul_le_mul_right _ hc
      by_cases h9 : k = 9
      · subst h9
        have : c = 1 := by omega
        subst this
        simp; omega
      · have hp : 128 ^ (k + 1) ≤ 128 ^ 9 := Nat.pow_le_pow_right (by decide) (by omega)
        have hs : acc + c % 128 * 128 ^ k < 128 ^ (k + 1) := by rw [Nat.pow_succ]; omega
        split
        · simp; have : (128 : Nat) ^ 9 = 9223372036854775808 := by decide
          omega
        · exact ih _ _ (by omega) hs
theorem sU_lt (s : St) : (sU s).2 ≤ 18446744073709551615 := by
  unfold sU; split
  · have := rdU_lt s.2 0 0 (by omega) (by simp); simp; omega
  · simp
theorem sSize_le (most : Int) (s : St) : (sSize most s).2 = 0 ∨ ((sSize most s).1.1 = 0 ∧ ((sSize most s).2 : Int) ≤ most) := by
  unfold sSize; split
  · split
    · simp
    · right; rename_i h1 h2; exact ⟨h1, by omega⟩
  · simp

/-- reading what was written -/
theorem rdU_enc (r : List Nat) (n : Nat) : ∀ k acc, k ≤ 9 → n * 128 ^ k < 18446744073709551616 → (0 < k → 0 < n) → rdU k acc (enc n ++ r) = (0, r, acc + n * 128 ^ k) := by
  induction n using Nat.strongRecOn with
  | _ n ih =>
    intro k acc hk hn hpos
    by_cases h : n < 128
    · rw [enc_small h, List.cons_append, List.nil_append, rdU, if_neg, if_pos h, Nat.mod_eq_of_lt h]
      rintro (⟨h9, h1⟩ | ⟨h0, h1⟩)
      · subst h9
        have : (128 : Nat) ^ 9 = 9223372036854775808 := by decide
        rw [this] at hn
        have := hpos (by omega)
        omega
      · have := hpos h0; omega
    · have hk9 : k ≠ 9 := by
        rintro rfl
        have : (128 : Nat) ^ 9 = 9223372036854775808 := by decide
        rw [this] at hn
        omega
      rw [enc_big h, List.cons_append, rdU, if_neg (by omega), if_neg (by omega)]
      have hdm : n * 128 ^ k = (n / 128) * 128 ^ (k + 1) + (n % 128) * 128 ^ k := by
        rw [Nat.pow_succ, ← Nat.mul_assoc, Nat.mul_right_comm, ← Nat.add_mul]
        congr 1; omega
      rw [ih (n / 128) (by omega) (k + 1) _ (by omega) (by omega) (fun _ => by omega)]
      rw [hdm]
      have : (n % 128 + 128) % 128 = n % 128 := by omega
      rw [this, Nat.add_assoc]
      simp [Nat.add_comm]
theorem sU_enc (r : List Nat) {n : Nat} (h : n ≤ 18446744073709551615) : sU (0, enc n ++ r) = ((0, r), n) := by
  have := rdU_enc r n 0 0 (by omega) (by simp; omega) (by omega)
  simp [sU, this]
/-- a proper prefix is too short -/
theorem rdU_cut (n : Nat) : ∀ (k acc j : Nat), k ≤ 9 → n * 128 ^ k < 18446744073709551616 → j < (enc n).length → rdU k acc ((enc n).take j) = (6, [], 0) := by
  induction n using Nat.strongRecOn with
  | _ n ih =>
    intro k acc j hk hn hj
    cases j with
    | zero => simp [rdU]
    | succ j =>
      by_cases h : n < 128
      · rw [enc_small h] at hj; simp at hj
      · have hk9 : k ≠ 9 := by
          rintro rfl
          have : (128 : Nat) ^ 9 = 9223372036854775808 := by decide
          rw [this] at hn
          omega
        rw [enc_big h] at hj ⊢
        rw [List.take_succ_cons, rdU, if_neg (by omega), if_neg (by omega)]
        have hdm : n * 128 ^ k = (n / 128) * 128 ^ (k + 1) + (n % 128) * 128 ^ k := by
          rw [Nat.pow_succ, ← Nat.mul_assoc, Nat.mul_right_comm, ← Nat.add_mul]
          congr 1; omega
        exact ih (n / 128) (by omega) (k + 1) _ j (by omega) (by omega) (by simpa using hj)
end Go.Proofs.YtgfekgceeigdiaaDoor.Wi
namespace Go.Proofs.YtgfekgceeigdiaaDoor.Wi
open Go.RowKit
theorem infoU8 : (Tryd.prog.info? 5).map (fun i => (i.zero, i.size, i.bytes)) = some (some (.int .u8 0), 1, 1) := by kernel_rfl
theorem or128 (k : Nat) : bits BinOp.or IntKind.u8 ((k : Int) % 256) 128 = ((k % 128 + 128 : Nat) : Int) := by
  have h : ∀ x : Fin 256, bits BinOp.or IntKind.u8 ((x.val : Nat) : Int) 128 = ((x.val % 128 + 128 : Nat) : Int) := by decide +kernel
  have := h ⟨k % 256, Nat.mod_lt _ (by decide)⟩
  simp only at this
  rw [show ((k : Int) % 256) = ((k % 256 : Nat) : Int) by omega, this]
  omega
theorem xor_ones (x : Nat) (h : x < 18446744073709551616) : x ^^^ 18446744073709551615 = 18446744073709551615 - x := by
  have h1 : (BitVec.ofNat 64 x ^^^ BitVec.allOnes 64).toNat = (~~~ (BitVec.ofNat 64 x)).toNat := by rw [BitVec.xor_allOnes]
  rw [BitVec.toNat_xor, BitVec.toNat_not, BitVec.toNat_ofNat, BitVec.toNat_allOnes, Nat.mod_eq_of_lt (by omega)] at h1
  exact h1
theorem wrap_u64 (n : Int) : IntKind.u64.wrap n = n % 18446744073709551616 := by simp [IntKind.wrap, IntKind.bits, IntKind.signed]
theorem wrap_u64_nat {n : Nat} (h : n ≤ 1000000000000000) : IntKind.u64.wrap (n : Int) = n := by rw [wrap_u64]; omega
theorem zig_bits (n : Int) (h1 : -9223372036854775808 ≤ n) (h2 : n ≤ 9223372036854775807) :
    bits BinOp.xor IntKind.u64 (IntKind.u64.wrap (IntKind.u64.wrap n * 2)) (IntKind.u64.wrap (n / 9223372036854775808)) = ((zig n : Nat) : Int) := by
  simp only [wrap_u64]
  by_cases h : 0 ≤ n
  · rw [show n / 9223372036854775808 = 0 by omega, show (n % 18446744073709551616 * 2) % 18446744073709551616 = ((2 * n).toNat : Int) by omega, show (0 : Int) % 18446744073709551616 = ((0 : Nat) : Int) by decide,
      u64_xor_nat _ _ (by omega) (by omega), Nat.xor_zero]
    simp [zig, h]
  · rw [show n / 9223372036854775808 = -1 by omega, show (n % 18446744073709551616 * 2) % 18446744073709551616 = (((2 * n + 18446744073709551616).toNat : Nat) : Int) by omega,
      show (-1 : Int) % 18446744073709551616 = ((18446744073709551615 : Nat) : Int) by decide,
      u64_xor_nat _ _ (by omega) (by omega), xor_ones _ (by omega)]
    simp only [zig, h, if_false]; omega

/-- a buffer: a variable at the head of block p that holds a row of the call's own, the bytes xs -/
def Buf (S : Nat → Prop) (w : World) (p : Nat) (xs : List Nat) : Prop :=
  ∃ v, w.cell? ⟨p, 0, none⟩ = some v ∧ w.frozen? ⟨p, 0, none⟩ = false ∧ Own S w 5 1 v xs.length (u8s xs) ∧ ¬ S p ∧ p < w.heap.size
theorem Buf.keep {K S : Nat → Prop} {w w' : World} {p : Nat} {xs : List Nat} (h : Buf K w p xs) (hk : Keeps S w w') (hp : ¬ S p) (hd : ∀ b, b < w.heap.size → K b → ¬ S b) : Buf K w' p xs := by
  obtain ⟨v, h1, h2, h3, h4, h5⟩ := h
  exact ⟨v, (hk.cell (p := ⟨p, 0, none⟩) h5 hp).trans h1, (hk.frozen (p := ⟨p, 0, none⟩) h5 hp).trans h2, h3.keep hk hd, h4, Nat.lt_of_lt_of_le h5 hk.size⟩
/-- a slice header stored into the buffer's variable -/
theorem buf_store {S T : Nat → Prop} {w wr w1 : World} {p : Nat} {vk : Value} {a1 : Option Addr} {cap1 : Nat} {ys : List Nat} (hS : ¬ S p) (hp : p < w.heap.size) (hk : Keeps (fun k => S k ∨ k = p) w wr)
    (hg : Keeps (fun k => S k ∨ w.heap.size ≤ k) wr w1) (ho : Own T w1 5 1 (.slice a1 ys.length cap1) ys.length (u8s ys)) (hT : ∀ k, T k → S k ∨ w.heap.size ≤ k) (hc : wr.cell? ⟨p, 0, none⟩ = some vk) (hf : wr.frozen? ⟨p, 0, none⟩ = false) :
    Buf (fun k => S k ∨ w.heap.size ≤ k) (w1.setCell ⟨p, 0, none⟩ (.slice a1 ys.length cap1)) p ys ∧ Keeps (fun k => S k ∨ k = p) w (w1.setCell ⟨p, 0, none⟩ (.slice a1 ys.length cap1)) := by
  have h1 : ¬ (S p ∨ w.heap.size ≤ p) := fun h => by rcases h with h | h; exact hS h; omega
  have h2 : p < wr.heap.size := Nat.lt_of_lt_of_le hp hk.size
  refine ⟨⟨_, World.cell?_setCell_same w1 _ _ ((hg.cell (p := ⟨p, 0, none⟩) h2 h1).trans hc), ?_, ?_, h1, ?_⟩, ?_⟩
  · rw [World.frozen?_setCell]; exact (hg.frozen (p := ⟨p, 0, none⟩) h2 h1).trans hf
  · exact (ho.mono (fun b _ hb => hT b hb)).keep (keeps_set (fun k => k = p) w1 ⟨p, 0, none⟩ _ rfl) (fun b _ hb => by rintro rfl; exact h1 hb)
  · have := hg.size; simp [World.setCell]; omega
  · refine (hk.trans' hg (fun i hi hs => ?_)).setCell (.inl (.inr rfl)) _
    rcases hs with hs | hs
    · exact .inl hs
    · omega
theorem buf_cell {S : Nat → Prop} {w wr w1 : World} {p : Nat} {vk : Value} (hS : ¬ S p) (hp : p < w.heap.size) (hk : Keeps (fun k => S k ∨ k = p) w wr)
    (hg : Keeps (fun k => S k ∨ w.heap.size ≤ k) wr w1) (hc : wr.cell? ⟨p, 0, none⟩ = some vk) : ∃ q, w1.cell? ⟨p, 0, none⟩ = some q :=
  ⟨vk, (hg.cell (p := ⟨p, 0, none⟩) (Nat.lt_of_lt_of_le hp hk.size) (fun h => by rcases h with h | h; exact hS h; simp at h; omega)).trans hc⟩
theorem buf_free {S : Nat → Prop} {w wr w1 : World} {p : Nat} (hS : ¬ S p) (hp : p < w.heap.size) (hk : Keeps (fun k => S k ∨ k = p) w wr)
    (hg : Keeps (fun k => S k ∨ w.heap.size ≤ k) wr w1) (hc : wr.frozen? ⟨p, 0, none⟩ = false) : w1.frozen? ⟨p, 0, none⟩ = false :=
  (hg.frozen (p := ⟨p, 0, none⟩) (Nat.lt_of_lt_of_le hp hk.size) (fun h => by rcases h with h | h; exact hS h; simp at h; omega)).trans hc
/-- what a call that appends to the buffer leaves -/
def BufPost (S : Nat → Prop) (w : World) (p : Nat) (xs : List Nat) (w' : World) : Prop :=
  Buf (fun k => S k ∨ w.heap.size ≤ k) w' p xs ∧ Keeps (fun k => S k ∨ k = p) w w'

set_option maxRecDepth 100000 in
set_option maxHeartbeats 400000 in
theorem put_any (S : Nat → Prop) (p : Nat) (xs : List Nat) (n : Nat) (w : World) (hb : Buf S w p xs) (hn : n ≤ 18446744073709551615) (hm : xs.length ≤ 140737488355000) :
    Calls Tryd.prog 83 #[.pointer (some ⟨p, 0, none⟩), .int .u64 n] w fun e w' => e = .returned (.tuple #[]) ∧ BufPost S w p (xs ++ enc n) w' := by
  obtain ⟨i0, hi, hz0, hz1, hz2⟩ := info_parts infoU8
  obtain ⟨v, hc, hf, hown, hS, hp⟩ := hb
  have HO := hid hown; clear hown
  have HN := hid hn; clear hn
  have HM := hid hm; clear hm
  go_enter Tryd.func83, Tryd.ntmps83
  go_wp2
  go_loopw [1] (fun i wr => ∃ (k : Nat) (vk : Value) (pre : List Nat), i = .int .u64 k ∧ Hd (xs ++ enc n = pre ++ enc k) ∧ wr.cell? ⟨p, 0, none⟩ = some vk ∧ wr.frozen? ⟨p, 0, none⟩ = false
      ∧ Hd (Own (fun k => S k ∨ w.heap.size ≤ k) wr 5 1 vk pre.length (u8s pre)) ∧ Hd (Keeps (fun k => S k ∨ k = p) w wr)) (fun i _ => (intOf i).toNat)
  case atStart => exact ⟨n, v, xs, rfl, hid rfl, hc, hf, hid (HO.out.mono fun b _ hb => .inl hb), hid (Keeps.refl _ _)⟩
  case round =>
    obtain ⟨k, vk, pre, rfl, hpre, hc1, hf1, hown, hkeep⟩ := hrel
    have hsz := hkeep.out.size
    have hlen : Hd (pre.length + 1 ≤ 140737488355010) := hid (by
      have h1 := congrArg List.length hpre.out
      have h2 := enc_len10 HN.out
      have h3 := enc_pos k
      have h4 := HM.out
      simp at h1; omega)
    by_cases hlt : 128 ≤ k
    · go_wp2_with (at_builtin; refine wpList_append_row rfl _ _ 22 rfl 5 i0 (.int .u8 0) 1 1 Tryd.underlying22 hi hz0 hz1 hz2 rfl (by decide) _ (fun _ => True) _ _ _ _ rfl (hown.out.alloc _) 1 _ rfl (src_one _ _ trivial) (by intro u hu; simp at hu; subst hu; rfl) ?h1 ?h2 ?_)
      case h1 => have := hlen.out; simp [maxLen]; omega
      case h2 => have := hlen.out; omega
      intro a1 cap1 w1 hown' hgrow; try intro _
      have hbs := buf_store (ys := pre ++ [k % 128 + 128]) hS hp hkeep.out ((keeps_alloc _ wr _).trans hgrow) (by rw [or128] at hown'; simpa [u8s] using hown') (fun b hb => by
        rcases hb with hb | hb
        · exact hb
        · exact .inr (by omega)) hc1 hf1
      have hc2 : ∃ q, w1.cell? ⟨p, 0, none⟩ = some q := buf_cell hS hp hkeep.out ((keeps_alloc _ wr _).trans hgrow) hc1
      have hf2 : w1.frozen? ⟨p, 0, none⟩ = false := buf_free hS hp hkeep.out ((keeps_alloc _ wr _).trans hgrow) hf1
      obtain ⟨q, hc2⟩ := hc2
      clear hown' hgrow
      have HB := hid hbs; clear hbs
      go_wp2
      go_roundw
      case rel =>
        obtain ⟨⟨v2, g1, g2, g3, _, _⟩, g4⟩ := HB.out
        refine ⟨k / 128, v2, pre ++ [k % 128 + 128], by go_num, ?_, by simpa using g1, by simpa using g2, ?_, hid (by simpa using g4)⟩
        · exact hid (by rw [hpre.out, enc_big (by omega)]; simp)
        · exact hid (by simpa using g3)
      case measure => simp [intOf]; omega
    · go_wp2_with (at_builtin; refine wpList_append_row rfl _ _ 22 rfl 5 i0 (.int .u8 0) 1 1 Tryd.underlying22 hi hz0 hz1 hz2 rfl (by decide) _ (fun _ => True) _ _ _ _ rfl (hown.out.alloc _) 1 _ rfl (src_one _ _ trivial) (by intro u hu; simp at hu; subst hu; rfl) ?h1 ?h2 ?_)
      case h1 => have := hlen.out; simp [maxLen]; omega
      case h2 => have := hlen.out; omega
      intro a1 cap1 w1 hown' hgrow; try intro _
      have hbs := buf_store (ys := pre ++ [k]) hS hp hkeep.out ((keeps_alloc _ wr _).trans hgrow) (by simpa [u8s] using hown') (fun b hb => by
        rcases hb with hb | hb
        · exact hb
        · exact .inr (by omega)) hc1 hf1
      have hc2 : ∃ q, w1.cell? ⟨p, 0, none⟩ = some q := buf_cell hS hp hkeep.out ((keeps_alloc _ wr _).trans hgrow) hc1
      have hf2 : w1.frozen? ⟨p, 0, none⟩ = false := buf_free hS hp hkeep.out ((keeps_alloc _ wr _).trans hgrow) hf1
      obtain ⟨q, hc2⟩ := hc2
      clear hown' hgrow
      have HB := hid hbs; clear hbs
      go_wp2
      go_end0
      refine ⟨rfl, ?_⟩
      rw [hpre.out, enc_small (by omega)]
      unfold BufPost; simpa using HB.out

set_option maxRecDepth 100000 in
set_option maxHeartbeats 400000 in
theorem WUint_any (S : Nat → Prop) (p : Nat) (xs : List Nat) (n : Nat) (w : World) (hb : Buf S w p xs) (hn : n ≤ 18446744073709551615) (hm : xs.length ≤ 140737488355000) :
    Calls Tryd.prog 60 #[.pointer (some ⟨p, 0, none⟩), .int .u64 n] w fun e w' => e = .returned (.tuple #[]) ∧ BufPost S w p (xs ++ enc n) w' := by
  have HB := hid hb; have HN := hid hn; have HM := hid hm; clear hb hn hm
  go_enter Tryd.func60, Tryd.ntmps60
  go_wp2_with (go_at_call 83; refine (put_any S p xs n _ HB.out HN.out HM.out).mono ?_; rintro e w1 ⟨rfl, h1⟩)
  go_end0
  exact ⟨rfl, h1⟩

set_option maxRecDepth 100000 in
set_option maxHeartbeats 400000 in
theorem WInt_any (S : Nat → Prop) (p : Nat) (xs : List Nat) (n : Int) (w : World) (hb : Buf S w p xs) (h1 : -9223372036854775808 ≤ n) (h2 : n ≤ 9223372036854775807) (hm : xs.length ≤ 140737488355000) :
    Calls Tryd.prog 59 #[.pointer (some ⟨p, 0, none⟩), .int .i64 n] w fun e w' => e = .returned (.tuple #[]) ∧ BufPost S w p (xs ++ encI n) w' := by
  have HB := hid hb; have H1 := hid h1; have H2 := hid h2; have HM := hid hm; clear hb h1 h2 hm
  go_enter Tryd.func59, Tryd.ntmps59
  go_wp2_with fail
  rw [zig_bits n H1.out H2.out]
  refine (put_any S p xs (zig n) _ HB.out (zig_le H1.out H2.out) HM.out).mono ?_
  rintro e w1 ⟨rfl, h1⟩
  go_wp2
  go_end0
  exact ⟨rfl, h1⟩

theorem BufPost.trans {S : Nat → Prop} {w w1 w2 : World} {p : Nat} {xs ys : List Nat} (h : BufPost S w p xs w1) (k : BufPost (fun k => S k ∨ w.heap.size ≤ k) w1 p ys w2) : BufPost S w p ys w2 := by
  refine ⟨?_, h.2.trans' k.2 (fun i hi hs => ?_)⟩
  · obtain ⟨v, g1, g2, g3, g4, g5⟩ := k.1
    refine ⟨v, g1, g2, g3.mono (fun b _ hb => ?_), ?_, g5⟩
    · rcases hb with hb | hb
      · exact hb
      · have := h.2.size; exact .inr (by omega)
    · exact h.1.choose_spec.2.2.2.1
  · rcases hs with (hs | hs) | hs
    · exact .inl hs
    · omega
    · exact .inr hs

set_option maxRecDepth 100000 in
set_option maxHeartbeats 400000 in
theorem WBytes_any (S K : Nat → Prop) (p : Nat) (xs : List Nat) (v : Value) (b : List Nat) (w : World) (hb : Buf S w p xs) (hv : Sl K w v (u8s b)) (hK : ∀ k, k < w.heap.size → K k → ¬ S k ∧ k ≠ p) (hm : xs.length + b.length ≤ 140737488355000) :
    Calls Tryd.prog 61 #[.pointer (some ⟨p, 0, none⟩), v] w fun e w' => e = .returned (.tuple #[]) ∧ BufPost S w p (xs ++ encB b) w' := by
  obtain ⟨i0, hi, hz0, hz1, hz2⟩ := info_parts infoU8
  have hv0 := hid hv
  obtain ⟨a, cap, rfl, hc1, hc2, _⟩ := hv.bytes
  have HB := hid hb; have HM := hid hm; have HK := hid hK; clear hb hm hK hv
  generalize hbl : b.length = n at *
  have HBL := hid hbl; clear hbl
  go_enter Tryd.func61, Tryd.ntmps61
  go_wp2_with fail
  rw [wrap_u64_nat (by have := HM.out; omega)]
  refine (put_any S p xs n _ HB.out (by have := HM.out; omega) (by have := HM.out; omega)).mono ?_
  rintro e w1 ⟨rfl, h1⟩
  have hlen := enc_len10 (n := n) (by have := HM.out; omega)
  have HL := hid hlen; clear hlen
  have HP := hid h1
  obtain ⟨⟨v1, g1, g2, g3, g4, g5⟩, gk⟩ := h1
  have G3 := hid g3; have GK := hid gk; clear g3 gk g4
  have hsrc : Sl K w1 (.slice a n cap) (u8s b) := hv0.out.keep GK.out (fun k hk hh => by have := HK.out k hk hh; rintro (h | h); exact this.1 h; exact this.2 h)
  have HS := hid hsrc; clear hsrc
  go_wp2_with (at_builtin; refine wpList_append_row rfl _ _ 22 rfl 5 i0 (.int .u8 0) 1 1 Tryd.underlying22 hi hz0 hz1 hz2 rfl (by decide) _ K _ _ _ _ rfl G3.out n _ rfl (sl_row HS.out (by simp [HBL.out])) (u8s_one _) ?h1 ?h2 ?_)
  case h1 => have := HL.out; have := HM.out; simp [maxLen]; omega
  case h2 => have := HL.out; have := HM.out; simp; omega
  intro a1 cap1 w2 hown' hgrow; try intro _
  have hbs := buf_store (ys := xs ++ encB b) HB.out.choose_spec.2.2.2.1 HB.out.choose_spec.2.2.2.2 GK.out (hgrow.mono (fun i _ hs => hs)) (by simpa [encB, HBL.out, u8s_append, Nat.add_assoc] using hown') (fun b hb => by
        rcases hb with hb | hb
        · exact hb
        · exact .inr (Nat.le_trans GK.out.size hb)) g1 g2
  have hc2 : ∃ q, w2.cell? ⟨p, 0, none⟩ = some q := buf_cell HB.out.choose_spec.2.2.2.1 HB.out.choose_spec.2.2.2.2 GK.out (hgrow.mono (fun i _ hs => hs)) g1
  have hf2 : w2.frozen? ⟨p, 0, none⟩ = false := buf_free HB.out.choose_spec.2.2.2.1 HB.out.choose_spec.2.2.2.2 GK.out (hgrow.mono (fun i _ hs => hs)) g2
  obtain ⟨q, hc2⟩ := hc2
  clear hown' hgrow
  have HE := hid hbs; clear hbs
  go_wp2
  go_end0
  refine ⟨rfl, ?_⟩
  unfold BufPost; simpa [encB, HBL.out, Nat.add_assoc] using HE.out

set_option maxRecDepth 100000 in
/-- the result is a new row that holds the same -/
def NewRet (w : World) (e : TypeId) (xs : List Value) (r : Ending) (w' : World) : Prop := ∃ a n c, r = .returned (.slice a n c) ∧ n = xs.length ∧ Own (fun k => w.heap.size ≤ k) w' e 1 (.slice a n c) n xs ∧ Keeps (fun _ => False) w w'

set_option maxRecDepth 100000 in
set_option maxHeartbeats 400000 in
theorem CloneB_any (K : Nat → Prop) (v : Value) (b : List Nat) (w : World) (hv : Sl K w v (u8s b)) (hm : b.length ≤ 140737488355000) :
    Calls Tryd.prog 11 #[v] w fun e w' => NewRet w 5 (u8s b) e w' := by
  obtain ⟨i0, hi, hz0, hz1, hz2⟩ := info_parts infoU8
  have hv0 := hid hv
  have HM := hid hm; clear hm
  have hq : ∀ (w : World) (a : Option Addr) (n c n' c' : Nat), (binOp .eql 22 (.slice a n c) (.slice none n' c')).run Tryd.prog w = .ok (.bool a.isNone) w := fun w a n c n' c' => Lib.run_eql_slice_nil w _ _ a n c n' c' Tryd.underlying22
  rcases hv.bcases with ⟨rfl, rfl⟩ | ⟨bb, cap, rfl⟩
  · clear hv hv0
    go_enter Tryd.func11, Tryd.ntmps11
    go_wp2
    go_ret
    exact ⟨none, 0, 0, rfl, rfl, Own.nil _ _ _ _, Keeps.refl _ _⟩
  · clear hv
    have HS : Hd (Sl K (w.alloc (.cells #[] 5)) (.slice (some bb) b.length cap) (u8s b)) := hid (hv0.out.keep (keeps_alloc (fun _ => False) w (.cells #[] 5)) (fun _ _ _ h => h))
    generalize hbl : b.length = n at *
    have HBL := hid hbl; clear hbl
    have HO : Hd (Own (fun k => w.heap.size ≤ k) (w.alloc (.cells #[] 5)) 5 1 (.slice (some ⟨w.heap.size, 0, none⟩) 0 0) 0 []) :=
      hid ⟨World.ownsRow_lit w #[] 0 (Nat.zero_le _) (Nat.zero_le _) rfl, fun k hk => by injection hk with hk; simp at hk; omega⟩
    go_enter Tryd.func11, Tryd.ntmps11
    go_wp2_with (at_builtin; refine wpList_append_row rfl _ _ 22 rfl 5 i0 (.int .u8 0) 1 1 Tryd.underlying22 hi hz0 hz1 hz2 rfl (by decide) _ K _ _ _ _ rfl HO.out n _ rfl (sl_row HS.out (by simp [HBL.out])) (u8s_one _) ?h1 ?h2 ?_)
    case h1 => have := HM.out; simp [maxLen]; omega
    case h2 => have := HM.out; omega
    intro a1 cap1 w2 hown' hgrow; try intro _
    try simp only [Nat.zero_add, List.nil_append] at hown'
    have H1 := hid hown'; have H2 := hid hgrow; clear hown' hgrow
    go_wp2
    go_ret
    refine ⟨a1, n, cap1, by simp, by simp [HBL.out], ?_, ?_⟩
    · have h1 := H1.out.mono (K' := fun k => w.heap.size ≤ k) (fun b hb hh => by
        rcases hh with hh | hh
        · exact hh
        · omega)
      simpa [HBL.out] using h1
    · exact ((keeps_alloc _ w _).trans' H2.out (fun i hi hs => by omega))
set_option maxRecDepth 100000 in
set_option maxHeartbeats 400000 in
theorem WDone_any (S : Nat → Prop) (p : Nat) (xs : List Nat) (w : World) (hb : Buf S w p xs) (hm : xs.length ≤ 140737488355000) :
    Calls Tryd.prog 62 #[.pointer (some ⟨p, 0, none⟩)] w fun e w' => NewRet w 5 (u8s xs) e w' := by
  obtain ⟨v, h1, h2, h3, h4, h5⟩ := hb
  have H3 := hid h3; have HM := hid hm; clear h3 hm
  obtain ⟨a, cap, rfl, _⟩ := H3.out.row.form
  go_enter Tryd.func62, Tryd.ntmps62
  go_wp2_with (go_at_call 11; refine (CloneB_any S _ xs _ (by have := H3.out.row; unfold Sl; rw [u8s_length]; exact this) HM.out).mono ?_; rintro e w1 ⟨a1, n1, c1, rfl, h6⟩; replace h6 := hid h6)
  go_ret
  exact ⟨a1, n1, c1, rfl, h6.out⟩

/-- a reader: the error, and (where there is none) the bytes that are left; its bytes lie in blocks of K -/
def Rd (K : Nat → Prop) (w : World) (p : Nat) (s : St) : Prop :=
  ∃ bv bs at_, w.cell? ⟨p, 0, none⟩ = some bv ∧ w.cell? ⟨p, 1, none⟩ = some (.int .i64 (at_ : Nat)) ∧ w.cell? ⟨p, 2, none⟩ = some (.int .i64 s.1) ∧ w.frozen? ⟨p, 1, none⟩ = false ∧ w.frozen? ⟨p, 2, none⟩ = false ∧
    Sl K w bv (u8s bs) ∧ ¬ K p ∧ p < w.heap.size ∧ at_ ≤ bs.length ∧ bs.length ≤ 140737488355000 ∧ (∀ c ∈ bs, c < 256) ∧ (s.1 = 0 → s.2 = bs.drop at_)
theorem Rd.keep {K S : Nat → Prop} {w w' : World} {p : Nat} {s : St} (h : Rd K w p s) (hk : Keeps S w w') (hp : ¬ S p) (hd : ∀ b, b < w.heap.size → K b → ¬ S b) : Rd K w' p s := by
  obtain ⟨bv, bs, at_, h1, h2, h3, h4, h5, h6, h7, h8, h9⟩ := h
  exact ⟨bv, bs, at_, (hk.cell (p := ⟨p, 0, none⟩) h8 hp).trans h1, (hk.cell (p := ⟨p, 1, none⟩) h8 hp).trans h2, (hk.cell (p := ⟨p, 2, none⟩) h8 hp).trans h3, (hk.frozen (p := ⟨p, 1, none⟩) h8 hp).trans h4,
    (hk.frozen (p := ⟨p, 2, none⟩) h8 hp).trans h5, h6.keep hk hd, h7, Nat.lt_of_lt_of_le h8 hk.size, h9⟩
/-- what a call that makes a reader leaves -/
def RdNew (w : World) (l : List Nat) (r : Ending) (w' : World) : Prop := ∃ p, r = .returned (.pointer (some ⟨p, 0, none⟩)) ∧ Rd (fun k => w.heap.size ≤ k ∧ k < p) w' p (0, l) ∧ w.heap.size ≤ p ∧ Keeps (fun _ => False) w w'

set_option maxRecDepth 100000 in
set_option maxHeartbeats 400000 in
theorem NewReader_any (K : Nat → Prop) (v : Value) (b : List Nat) (w : World) (hv : Sl K w v (u8s b)) (hm : b.length ≤ 140737488355000) (hb : ∀ c ∈ b, c < 256) :
    Calls Tryd.prog 46 #[v] w fun e w' => RdNew w b e w' := by
  have hv0 := hid hv
  have HM := hid hm; have HB := hid hb; clear hm hb
  obtain ⟨a, cap, rfl, _⟩ := hv.bytes
  clear hv
  go_enter Tryd.func46, Tryd.ntmps46
  go_wp2_with (go_at_call 11; refine (CloneB_any K _ b _ hv0.out HM.out).mono ?_; rintro e w1 ⟨a1, n1, c1, rfl, h6⟩; replace h6 := hid h6)
  go_ret
  have hk := h6.out.2.2
  refine ⟨w1.heap.size, rfl, ?_, hk.size, hk.alloc _⟩
  refine ⟨.slice a1 n1 c1, b, 0, by simp, by simp, by simp, by simp, by simp, ?_, by simp, by simp, Nat.zero_le _, HM.out, HB.out, fun _ => rfl⟩
  have h7 := h6.out.2.1.row
  have h8 : Sl (fun k => w.heap.size ≤ k) w1 (.slice a1 n1 c1) (u8s b) := by unfold Sl; rw [← h6.out.1]; exact h7
  exact (h8.mono (K' := fun k => w.heap.size ≤ k ∧ k < w1.heap.size) (fun b hb h => ⟨h, hb⟩)).keep (keeps_alloc (fun _ => False) w1 _) (fun _ _ _ h => h)
end Go.Proofs.YtgfekgceeigdiaaDoor.Wi
namespace Go.Proofs.YtgfekgceeigdiaaDoor.Wi
open Go.RowKit

theorem grp (acc c k : Nat) (hc : c < 256) (hk : k ≤ 9) (h9 : k = 9 → c = 1) (ha : acc < 128 ^ k) :
    bits BinOp.or IntKind.u64 (acc : Int) (IntKind.u64.wrap (IntKind.u64.wrap (bits BinOp.and IntKind.u8 (c : Int) 127) * 2 ^ (7 * k))) = ((acc + c % 128 * 128 ^ k : Nat) : Int) := by
  have h1 : bits BinOp.and IntKind.u8 (c : Int) 127 = ((c % 128 : Nat) : Int) := by
    have := u8_and_nat c 127 hc (by omega)
    rw [nat_mask7] at this
    exact this
  have hp : (128 : Nat) ^ k ≤ 128 ^ 9 := Nat.pow_le_pow_right (by decide) hk
  have h128 : (128 : Nat) ^ 9 = 9223372036854775808 := by decide
  have h2 : (2 : Int) ^ (7 * k) = ((128 ^ k : Nat) : Int) := by
    rw [Int.pow_mul]; simp
  have h3 : c % 128 * 128 ^ k < 18446744073709551616 := by
    by_cases h : k = 9
    · have := h9 h; subst this; subst h; decide
    · have hp8 : (128 : Nat) ^ k ≤ 128 ^ 8 := Nat.pow_le_pow_right (by decide) (by omega)
      have h128 : (128 : Nat) ^ 8 = 72057594037927936 := by decide
      have := Nat.mul_le_mul (show c % 128 ≤ 127 by omega) hp8
      omega
  rw [h1, h2, wrap_u64 ((c % 128 : Nat) : Int), show ((c % 128 : Nat) : Int) % 18446744073709551616 = ((c % 128 : Nat) : Int) by omega, ← Int.natCast_mul, wrap_u64, show ((c % 128 * 128 ^ k : Nat) : Int) % 18446744073709551616 = ((c % 128 * 128 ^ k : Nat) : Int) by omega,
    u64_or_nat _ _ (by omega) h3, Nat.or_comm, nat_join (7 * k) _ _ (by rw [Nat.pow_mul]; exact Nat.mul_mod_left _ _) (by rw [Nat.pow_mul]; exact ha), Nat.add_comm]

/-- the three cells of a reader -/
def RC (w : World) (p : Nat) (bv : Value) (j : Nat) (e : Int) : Prop :=
  w.cell? ⟨p, 0, none⟩ = some bv ∧ w.cell? ⟨p, 1, none⟩ = some (.int .i64 (j : Nat)) ∧ w.cell? ⟨p, 2, none⟩ = some (.int .i64 e) ∧ w.frozen? ⟨p, 1, none⟩ = false ∧ w.frozen? ⟨p, 2, none⟩ = false
theorem rc_drewN {w : World} {p : Nat} {bv : Value} {j : Nat} {e : Int} (h : RC w p bv j e) (n : Nat) : RC (w.drewN n) p bv j e := h
theorem rc_set1 {w : World} {p : Nat} {bv : Value} {j : Nat} {e : Int} (h : RC w p bv j e) (i : Nat) {x : Int} (hx : x = (i : Nat)) : RC (w.setCell ⟨p, 1, none⟩ (.int .i64 x)) p bv i e := by
  subst hx
  obtain ⟨h0, h1, h2, h3, h4⟩ := h
  exact ⟨(World.cell?_setCell_other w _ _ _ (by simp)).trans h0, World.cell?_setCell_same w _ _ h1, (World.cell?_setCell_other w _ _ _ (by simp)).trans h2, by rw [World.frozen?_setCell]; exact h3, by rw [World.frozen?_setCell]; exact h4⟩
theorem rc_set2 {w : World} {p : Nat} {bv : Value} {j : Nat} {e : Int} (h : RC w p bv j e) (i : Int) : RC (w.setCell ⟨p, 2, none⟩ (.int .i64 i)) p bv j i := by
  obtain ⟨h0, h1, h2, h3, h4⟩ := h
  exact ⟨(World.cell?_setCell_other w _ _ _ (by simp)).trans h0, (World.cell?_setCell_other w _ _ _ (by simp)).trans h1, World.cell?_setCell_same w _ _ h2, by rw [World.frozen?_setCell]; exact h3, by rw [World.frozen?_setCell]; exact h4⟩


def RUPost (K : Nat → Prop) (w : World) (p : Nat) (s : St) (r : Ending) (w' : World) : Prop := r = .returned (.int .u64 ((sU s).2 : Nat)) ∧ Rd K w' p (sU s).1 ∧ Keeps (fun k => k = p) w w'
/-- the last step of a read: the reader's cells at the end -/
theorem ru_end {K : Nat → Prop} {w w' : World} {p : Nat} {bv : Value} {bs l : List Nat} {j x : Nat} {e v : Int} (hv : v = (x : Nat)) (hc : RC w' p bv j e) (hk : Keeps (fun k => k = p) w w') (hs : Sl K w bv (u8s bs)) (hK : ¬ K p) (hp : p < w.heap.size) (hj : j ≤ bs.length)
    (hb : bs.length ≤ 140737488355000) (hbs : ∀ c ∈ bs, c < 256) (hu : (sU (0, l)).1.1 = e) (hr : e = 0 → (sU (0, l)).1.2 = bs.drop j) (hx : (sU (0, l)).2 = x) : RUPost K w p (0, l) (.returned (.int .u64 v)) w' := by
  subst hv hx
  obtain ⟨h0, h1, h2, h3, h4⟩ := hc
  exact ⟨rfl, ⟨bv, bs, j, h0, h1, by rw [hu]; exact h2, h3, h4, hs.keep hk (fun b _ hb => by rintro rfl; exact hK hb), hK, Nat.lt_of_lt_of_le hp hk.size, hj, hb, hbs, fun h => hr (by rw [← hu]; exact h)⟩, hk⟩
theorem ru_next {c k acc : Nat} {r : List Nat} (h1 : ¬ (k = 9 ∧ c ≠ 1)) (h2 : ¬ (0 < k ∧ c = 0)) (h3 : ¬ c < 128) : rdU k acc (c :: r) = rdU (k + 1) (acc + c % 128 * 128 ^ k) r := by
  rw [rdU, if_neg (by rintro (h | h); exact h1 h; exact h2 h), if_neg h3]
theorem ru_last {c k acc : Nat} {r : List Nat} (h1 : ¬ (k = 9 ∧ c ≠ 1)) (h2 : ¬ (0 < k ∧ c = 0)) (h3 : c < 128) : rdU k acc (c :: r) = (0, r, acc + c % 128 * 128 ^ k) := by
  rw [rdU, if_neg (by rintro (h | h); exact h1 h; exact h2 h), if_pos h3]
theorem ru_bad {c k acc : Nat} {r : List Nat} (h : (k = 9 ∧ c ≠ 1) ∨ (0 < k ∧ c = 0)) : rdU k acc (c :: r) = (7, [], 0) := by rw [rdU, if_pos h]
theorem acc_next {c k acc : Nat} (ha : acc < 128 ^ k) : acc + c % 128 * 128 ^ k < 128 ^ (k + 1) := by
  have := Nat.mul_le_mul_right (128 ^ k) (show c % 128 ≤ 127 by omega)
  rw [Nat.pow_succ]; omega

set_option maxRecDepth 100000 in set_option maxHeartbeats 400000 in
theorem RUint_any (K : Nat → Prop) (p : Nat) (s : St) (w : World) (h : Rd K w p s) :
    Calls Tryd.prog 50 #[.pointer (some ⟨p, 0, none⟩)] w fun e w' => RUPost K w p s e w' := by
  have HR := hid h
  obtain ⟨bv, bs, at0, h1, h2, h3, h4, h5, h6, h7, h8, h9, h10, h11, h12⟩ := h
  obtain ⟨ev, l⟩ := s
  simp only at h3 h12
  by_cases he : ev = 0
  · subst he
    have HL := hid (h12 rfl); clear h12
    have H6 := hid h6; have H7 := hid h7; have H8 := hid h8; have H10 := hid h10; have H11 := hid h11; have H9 := hid h9; clear h10 h11
    obtain ⟨a, cap, rfl, hc1, hc2, hv⟩ := h6.bytes
    clear h6 hc1 hc2
    have HV := hid hv; clear hv
    have HRC : Hd (RC w p (.slice a bs.length cap) at0 0) := hid ⟨h1, h2, h3, h4, h5⟩
    generalize hbl : bs.length = n at *
    have HBL := hid hbl; clear hbl
    have hn : n ≤ 140737488355000 := H10.out
    go_enter Tryd.func50, Tryd.ntmps50
    go_wp2
    go_step3
    go_wp2
    go_step3
    go_wp2
    go_loopw [3, 4] (fun x i wr => ∃ (k acc j : Nat), x = .int .u64 acc ∧ i = .int .i64 k ∧ k ≤ 9 ∧ j ≤ n ∧ Hd (RC wr p (.slice a n cap) j 0)
       ∧ Hd (acc < 128 ^ k) ∧ Hd (rdU 0 0 l = rdU k acc (bs.drop j)) ∧ Hd (Keeps (fun k => k = p) w wr)) (fun _ i _ => 10 - (intOf i).toNat)
    case atStart => exact ⟨0, 0, at0, rfl, rfl, by omega, h9, HRC, hid (by decide), hid (by rw [HL.out]), hid (Keeps.refl _ _)⟩
    case round =>
      clear h1 h2 h3 h4 h5 h7 h8 h9
      obtain ⟨k, acc, j, rfl, rfl, hk, hj, hrc, hacc, hrd, hkeep⟩ := hrel
      obtain ⟨h1, h2, h3, h4, h5⟩ := hrc.out
      by_cases hlt : j < n
      · obtain ⟨b1, o1, rfl, hKb, hb1, d1⟩ := HV.out (by omega)
        have e1 : wr.cell? ⟨b1, o1 + j, none⟩ = some (.int .u8 (bs.getD j 0 : Nat)) := by
          rw [hkeep.out.cell (p := ⟨b1, o1 + j, none⟩) hb1 (by rintro rfl; exact H7.out hKb)]
          exact d1 j hlt
        have HC : Hd (bs.getD j 0 < 256 ∧ bs.drop j = bs.getD j 0 :: bs.drop (j + 1)) := hid (by
          have := HBL.out
          refine ⟨H11.out _ (by simp [List.getD, this, hlt]), ?_⟩
          rw [List.drop_eq_getElem_cons (by omega)]; simp [List.getD, this, hlt])
        clear d1 hb1 hKb
        generalize bs.getD j 0 = c at *
        have hj0 : (0 : Int) ≤ (j : Int) := by omega
        have hj1 : (j : Int) < n := by omega
        have hjn : ((j : Int) == (n : Int)) = false := by simp; omega
        have hc256 : c < 256 := HC.out.1
        by_cases hbad : (k = 9 ∧ c ≠ 1) ∨ (0 < k ∧ c = 0)
        · have HF : Hd (sU (0, l) = ((7, []), 0)) := hid (by simp only [sU, if_true]; rw [hrd.out, HC.out.2, ru_bad hbad])
          have hb1 : (k = 9 ∧ c ≠ 1) ∨ (¬ k = 9 ∧ 0 < k ∧ c = 0) := by omega
          clear hbad
          rcases hb1 with ⟨hk9, hc1⟩ | ⟨hk9, hk0, rfl⟩
          · have t1 : ((k : Int) == 9) = true := by simp; omega
            have t2 : ((c : Int) != 1) = true := by simp; omega
            clear hk9 hc1
            go_wp2
            go_quiet (fail)
            go_wp2
            go_quiet (fail)
            go_wp2
            rw [Exit.noGoto_ret]
            go_ret
            exact ru_end rfl (bs := bs) (j := j) (x := 0) (e := 7) (rc_drewN (rc_set2 hrc.out 7) _) ((hkeep.out.setCell (.inl rfl) _).drewN _) H6.out H7.out H8.out (by rw [HBL.out]; exact hj) (by rw [HBL.out]; exact H10.out) H11.out (by rw [HF.out]) (by simp) (by rw [HF.out])
          · have t1 : ((k : Int) == 9) = false := by simp; omega
            clear hk9
            go_wp2
            go_quiet (fail)
            go_wp2
            go_quiet (fail)
            go_wp2
            rw [Exit.noGoto_ret]
            go_ret
            exact ru_end rfl (bs := bs) (j := j) (x := 0) (e := 7) (rc_drewN (rc_set2 hrc.out 7) _) ((hkeep.out.setCell (.inl rfl) _).drewN _) H6.out H7.out H8.out (by rw [HBL.out]; exact hj) (by rw [HBL.out]; exact H10.out) H11.out (by rw [HF.out]) (by simp) (by rw [HF.out])
        · have HN1 := hid (show ¬ (k = 9 ∧ c ≠ 1) from fun h => hbad (.inl h)); have HN2 := hid (show ¬ (0 < k ∧ c = 0) from fun h => hbad (.inr h)); clear hbad
          have HG := hid (grp acc c k hc256 hk (fun h => by have := HN1.out; omega) hacc.out)
          have tA : (((k : Int) == 9) = true ∧ ((c : Int) != 1) = false ∧ (0 : Int) < (k : Int) ∧ ((c : Int) == 0) = false) ∨ (((k : Int) == 9) = false ∧ (0 : Int) < (k : Int) ∧ ((c : Int) == 0) = false) ∨ (((k : Int) == 9) = false ∧ (k : Int) ≤ 0) := by
            have h1 := HN1.out
            have h2 := HN2.out
            by_cases h : k = 9
            · left; simp; omega
            · right
              by_cases h0 : 0 < k
              · left; simp; omega
              · right; simp; omega
          by_cases hsm : c < 128
          · have hsm1 : (c : Int) < 128 := by omega
            have HF : Hd (sU (0, l) = ((0, bs.drop (j + 1)), acc + c % 128 * 128 ^ k)) := hid (by simp only [sU, if_true]; rw [hrd.out, HC.out.2, ru_last HN1.out HN2.out hsm])
            rcases tA with ⟨t1, t2, t3, t4⟩ | ⟨t1, t3, t4⟩ | ⟨t1, t3⟩
            all_goals
              go_wp2
              go_quiet (fail)
              go_wp2
              go_quiet (fail)
              go_wp2
              rw [Exit.noGoto_ret]
              go_ret
              exact ru_end HG.out (bs := bs) (j := j + 1) (e := 0) (rc_set1 (rc_drewN hrc.out _) (j + 1) (by omega)) ((hkeep.out.drewN _).setCell (.inl rfl) _) H6.out H7.out H8.out (by rw [HBL.out]; exact hlt) (by rw [HBL.out]; exact H10.out) H11.out (by rw [HF.out]) (fun _ => by rw [HF.out]) (by rw [HF.out])
          · have hsm1 : (128 : Int) ≤ c := by omega
            have HF : Hd (rdU 0 0 l = rdU (k + 1) (acc + c % 128 * 128 ^ k) (bs.drop (j + 1))) := hid (by rw [hrd.out, HC.out.2, ru_next HN1.out HN2.out hsm])
            have h9 : k ≠ 9 := by have := HN1.out; omega
            rcases tA with ⟨t1, t2, t3, t4⟩ | ⟨t1, t3, t4⟩ | ⟨t1, t3⟩
            · exact absurd (by simpa using t1) (by omega)
            all_goals
              clear h9
              go_wp2
              go_quiet (fail)
              go_wp2
              go_quiet (fail)
              go_wp2
              go_roundw
              case rel =>
                exact ⟨k + 1, acc + c % 128 * 128 ^ k, j + 1, by rw [HG.out], by go_num, by have := HN1.out; simp at t1; omega, by omega, hid (rc_set1 (rc_drewN hrc.out _) (j + 1) (by omega)), hid (acc_next hacc.out), HF, hid ((hkeep.out.drewN _).setCell (.inl rfl) _)⟩
              case measure => simp [intOf]; omega
      · have hjn : ((j : Int) == (n : Int)) = true := by simp; omega
        have HF : Hd (sU (0, l) = ((6, []), 0)) := hid (by simp only [sU, if_true]; rw [hrd.out, List.drop_eq_nil_of_le (by rw [HBL.out]; omega)]; rfl)
        go_wp2
        go_quiet (fail)
        go_wp2
        rw [Exit.noGoto_ret]
        go_ret
        exact ru_end rfl (bs := bs) (j := j) (x := 0) (e := 6) (rc_drewN (rc_set2 hrc.out 6) _) ((hkeep.out.setCell (.inl rfl) _).drewN _) H6.out H7.out H8.out (by rw [HBL.out]; exact hj) (by rw [HBL.out]; exact H10.out) H11.out (by rw [HF.out]) (by simp) (by rw [HF.out])
  · have HE := hid he; clear h12
    have t1 : (ev != 0) = true := by simp; exact he
    clear he h6 h7 h8 h9 h10 h11
    go_enter Tryd.func50, Tryd.ntmps50
    go_wp2
    go_step3
    go_wp2
    rw [Exit.noGoto_ret]
    go_ret
    have h := HR.out
    unfold RUPost
    rw [sU_err (s := (ev, l)) HE.out]
    exact ⟨rfl, h, Keeps.refl _ _⟩
end Go.Proofs.YtgfekgceeigdiaaDoor.Wi
namespace Go.Proofs.YtgfekgceeigdiaaDoor.Wi
open Go.RowKit

theorem xor_m1 (x : Nat) (hx : x < 9223372036854775808) : bits BinOp.xor IntKind.i64 (x : Int) (-1) = -(x : Int) - 1 := by
  show IntKind.i64.wrap ((BitVec.ofInt 64 (x : Int) ^^^ BitVec.ofInt 64 (-1)).toNat : Int) = _
  rw [show BitVec.ofInt 64 (-1) = BitVec.allOnes 64 by decide, BitVec.xor_allOnes, BitVec.toNat_not, BitVec.ofInt_natCast, BitVec.toNat_ofNat, Nat.mod_eq_of_lt (by omega), IntKind.wrap_i64]
  omega
theorem xor_z (x : Nat) (hx : x < 9223372036854775808) : bits BinOp.xor IntKind.i64 (x : Int) 0 = (x : Int) := by
  show IntKind.i64.wrap ((BitVec.ofInt 64 (x : Int) ^^^ BitVec.ofInt 64 0).toNat : Int) = _
  rw [show BitVec.ofInt 64 0 = 0#64 by decide, BitVec.xor_zero, BitVec.ofInt_natCast, BitVec.toNat_ofNat, Nat.mod_eq_of_lt (by omega), IntKind.wrap_i64]
  omega
theorem zag_bits (u : Nat) (hu : u ≤ 18446744073709551615) : bits BinOp.xor IntKind.i64 (wrap64 ((u : Int) / 2)) (wrap64 (-wrap64 (bits BinOp.and IntKind.u64 (u : Int) 1))) = zag u := by
  rw [and_one_u64 _ (by omega) (by omega), show wrap64 ((u : Int) / 2) = ((u / 2 : Nat) : Int) by unfold wrap64; omega]
  rcases Nat.mod_two_eq_zero_or_one u with h | h
  · rw [show wrap64 ((u : Int) % 2) = 0 by unfold wrap64; omega, show wrap64 (-0) = 0 by unfold wrap64; decide, xor_z _ (by omega)]
    simp [zag, h]
  · rw [show wrap64 ((u : Int) % 2) = 1 by unfold wrap64; omega, show wrap64 (-1) = -1 by unfold wrap64; decide, xor_m1 _ (by omega)]
    simp [zag, h]
def RIPost (K : Nat → Prop) (w : World) (p : Nat) (s : St) (r : Ending) (w' : World) : Prop := r = .returned (.int .i64 (sI s).2) ∧ Rd K w' p (sI s).1 ∧ Keeps (fun k => k = p) w w'
set_option maxRecDepth 100000 in set_option maxHeartbeats 400000 in
theorem RInt_any (K : Nat → Prop) (p : Nat) (s : St) (w : World) (h : Rd K w p s) :
    Calls Tryd.prog 47 #[.pointer (some ⟨p, 0, none⟩)] w fun e w' => RIPost K w p s e w' := by
  have HR := hid h; clear h
  have HU := hid (sU_lt s)
  generalize hu : (sU s).2 = u at *
  have HE := hid hu; clear hu
  go_enter Tryd.func47, Tryd.ntmps47
  go_wp2_with (go_at_call 50; refine (RUint_any K p s _ HR.out).mono ?_; rintro e w1 ⟨rfl, h1⟩; replace h1 := hid h1; rw [HE.out])
  go_ret
  have h := h1.out
  refine ⟨?_, h.1, h.2⟩
  rw [show (sI s).2 = zag u by rw [← HE.out]; rfl, ← zag_bits u HU.out]
  rfl
def RSPost (K : Nat → Prop) (w : World) (p : Nat) (most : Int) (s : St) (r : Ending) (w' : World) : Prop :=
  ∃ n : Int, r = .returned (.tuple #[.int .i64 n, .bool (decide ((sSize most s).1.1 = 0))]) ∧ ((sSize most s).1.1 = 0 → n = ((sSize most s).2 : Nat)) ∧ Rd K w' p (sSize most s).1 ∧ Keeps (fun k => k = p) w w'
theorem rs_ret {n : Int} {a b : Bool} (h : a = b) : Ending.returned (.tuple #[.int .i64 n, .bool a]) = .returned (.tuple #[.int .i64 n, .bool b]) := by rw [h]
theorem rd_of {K : Nat → Prop} {w1 w2 : World} {p at_ : Nat} {bv : Value} {bs l : List Nat} {e : Int} (hc : RC w2 p bv at_ e) (hk : Keeps (fun k => k = p) w1 w2)
    (h : Sl K w1 bv (u8s bs) ∧ ¬ K p ∧ p < w1.heap.size ∧ at_ ≤ bs.length ∧ bs.length ≤ 140737488355000 ∧ (∀ c ∈ bs, c < 256)) (hl : e = 0 → l = bs.drop at_) : Rd K w2 p (e, l) := by
  obtain ⟨h0, h1, h2, h3, h4, h5⟩ := h
  obtain ⟨c0, c1, c2, c3, c4⟩ := hc
  exact ⟨bv, bs, at_, c0, c1, c2, c3, c4, h0.keep hk (fun b _ hb => by rintro rfl; exact h1 hb), h1, Nat.lt_of_lt_of_le h2 hk.size, h3, h4, h5, hl⟩
set_option maxRecDepth 100000 in set_option maxHeartbeats 400000 in
theorem RSize_any (K : Nat → Prop) (p : Nat) (most : Int) (s : St) (w : World) (h : Rd K w p s) (hmo : most ≤ 9223372036854775807) :
    Calls Tryd.prog 72 #[.pointer (some ⟨p, 0, none⟩), .int .i64 most] w fun e w' => RSPost K w p most s e w' := by
  have HMO := hid hmo; clear hmo
  have HR := hid h; clear h
  have HU := hid (sU_lt s)
  generalize hu : (sU s).2 = u at *
  have HE := hid hu; clear hu
  go_enter Tryd.func72, Tryd.ntmps72
  go_wp2_with fail
  refine (RUint_any K p s _ HR.out).mono ?_
  rintro e w1 ⟨rfl, h1⟩
  rw [HE.out]
  have hk := hid h1.2
  obtain ⟨bv, bs, at_, g1, g2, g3, g4, g5, g6, g7, g8, g9, g10, g11, g12⟩ := h1.1
  have G := hid (And.intro g6 (And.intro g7 (And.intro g8 (And.intro g9 (And.intro g10 g11))))); have G12 := hid g12
  clear g6 g7 g8 g9 g10 g11 g12
  have HF : Hd (sSize most s = if (sU s).1.1 = 0 then (if most < 0 ∨ most < u then ((2, (sU s).1.2), 0) else ((sU s).1, u)) else ((sU s).1, 0)) := hid (by
    unfold sSize; rw [← HE.out])
  clear h1
  generalize (sU s).1 = t at *
  obtain ⟨e0, l0⟩ := t
  simp only at g3 HF
  by_cases he : e0 = 0
  · subst he
    rw [if_pos rfl] at HF
    by_cases hm : most < 0
    · rw [if_pos (Or.inl hm)] at HF
      go_wp2
      go_quiet (fail)
      go_wp2
      go_ret2
      exact ⟨_, rs_ret (by rw [HF.out]; rfl), fun h => by rw [HF.out] at h; simp at h, by rw [HF.out]; exact rd_of (e := 2) (l := l0) (rc_drewN (rc_set2 ⟨g1, g2, g3, g4, g5⟩ 2) _) ((keeps_set (fun k => k = p) w1 _ _ rfl).drewN _) G.out (by simp), (hk.out.setCell (.inl rfl) _).drewN _⟩
    · by_cases hm2 : most < u
      · rw [if_pos (Or.inr hm2)] at HF
        have hm3 : 0 ≤ most := by omega
        have t2 : IntKind.u64.wrap most = most := by rw [wrap_u64]; have := HU.out; omega
        clear hm
        go_wp2
        go_quiet (fail)
        go_wp2
        go_ret2
        exact ⟨_, rs_ret (by rw [HF.out]; rfl), fun h => by rw [HF.out] at h; simp at h, by rw [HF.out]; exact rd_of (e := 2) (l := l0) (rc_drewN (rc_set2 ⟨g1, g2, g3, g4, g5⟩ 2) _) ((keeps_set (fun k => k = p) w1 _ _ rfl).drewN _) G.out (by simp), (hk.out.setCell (.inl rfl) _).drewN _⟩
      · rw [if_neg (by omega)] at HF
        have hm3 : 0 ≤ most := by omega
        have hm4 : (u : Int) ≤ most := by omega
        have t2 : IntKind.u64.wrap most = most := by rw [wrap_u64]; have := HMO.out; omega
        have t3 : wrap64 (u : Int) = u := by unfold wrap64; have := HMO.out; omega
        have T3 := hid t3; clear t3
        clear hm hm2
        go_wp2
        go_quiet (fail)
        go_wp2
        go_ret2
        exact ⟨_, rs_ret (by rw [HF.out]; rfl), fun h => by rw [HF.out]; exact T3.out, by rw [HF.out]; exact rd_of (e := 0) (l := l0) (rc_drewN ⟨g1, g2, g3, g4, g5⟩ _) ((Keeps.refl (fun k => k = p) w1).drewN _) G.out (fun _ => G12.out (by simp)), hk.out.drewN _⟩
  · rw [if_neg he] at HF
    have HE0 := hid he
    have t1 : (e0 == 0) = false := by simp; exact he
    clear he
    go_wp2
    go_quiet (fail)
    go_wp2
    go_ret2
    exact ⟨_, rs_ret (by rw [HF.out]; simpa using HE0.out), fun h => by rw [HF.out] at h; exact absurd h HE0.out, by rw [HF.out]; exact rd_of (e := e0) (l := l0) (rc_drewN ⟨g1, g2, g3, g4, g5⟩ _) ((Keeps.refl (fun k => k = p) w1).drewN _) G.out (fun h => absurd h HE0.out), hk.out.drewN _⟩
set_option maxRecDepth 100000 in set_option maxHeartbeats 400000 in
theorem REnd_any (K : Nat → Prop) (p : Nat) (s : St) (w : World) (h : Rd K w p s) :
    Calls Tryd.prog 49 #[.pointer (some ⟨p, 0, none⟩)] w fun e w' => e = .returned (.int .i64 (sEnd s)) ∧ Drawn w w' := by
  obtain ⟨bv, bs, at_, g1, g2, g3, g4, g5, h6, h7, h8, h9, h10, h11, h12⟩ := h
  obtain ⟨ev, l⟩ := s
  obtain ⟨a, cap, rfl, _, _, _⟩ := h6.bytes
  simp only at g3 h12
  clear h6 h7 h8
  by_cases he : ev = 0
  · subst he
    have HF : Hd (sEnd (0, l) = if at_ < bs.length then 7 else 0) := hid (by rw [h12 rfl]; simp [sEnd]; split <;> split <;> omega)
    clear h12
    generalize bs.length = n at *
    have hn : n ≤ 140737488355000 := h10
    clear h10 h11
    by_cases hlt : at_ < n
    · have hl1 : (at_ : Int) < n := by omega
      rw [if_pos hlt] at HF
      go_enter Tryd.func49, Tryd.ntmps49
      go_wp2
      go_quiet (fail)
      go_wp2
      go_ret
      exact ⟨ret_int HF.out.symm, drawn_n (Drawn.refl _) _⟩
    · have hl1 : (n : Int) ≤ at_ := by omega
      rw [if_neg hlt] at HF
      go_enter Tryd.func49, Tryd.ntmps49
      go_wp2
      go_quiet (fail)
      go_wp2
      go_ret
      exact ⟨ret_int HF.out.symm, drawn_n (Drawn.refl _) _⟩
  · have HF : Hd (sEnd (ev, l) = ev) := hid (by simp [sEnd, he])
    have t1 : (ev == 0) = false := by simp; exact he
    clear he h9 h10 h11 h12
    go_enter Tryd.func49, Tryd.ntmps49
    go_wp2
    go_quiet (fail)
    go_wp2
    go_ret
    exact ⟨ret_int HF.out.symm, drawn_n (Drawn.refl _) _⟩
end Go.Proofs.YtgfekgceeigdiaaDoor.Wi
namespace Go.Proofs.YtgfekgceeigdiaaDoor.Wi
open Go.RowKit

theorem RSize_ok (K : Nat → Prop) (p : Nat) (most : Int) (s : St) (w : World) (h : Rd K w p s) (hmo : most ≤ 9223372036854775807) (h0 : (sSize most s).1.1 = 0) :
    Calls Tryd.prog 72 #[.pointer (some ⟨p, 0, none⟩), .int .i64 most] w fun e w' => e = .returned (.tuple #[.int .i64 ((sSize most s).2 : Nat), .bool true]) ∧ Rd K w' p (0, (sSize most s).1.2) ∧ Keeps (fun k => k = p) w w' :=
  (RSize_any K p most s w h hmo).mono fun e w' ⟨n, h1, h2, h3, h4⟩ => by
    have : (sSize most s).1 = (0, (sSize most s).1.2) := by rw [← h0]
    rw [h1, h2 h0, h0]
    exact ⟨rfl, by rw [← this]; exact h3, h4⟩
theorem RSize_no (K : Nat → Prop) (p : Nat) (most : Int) (s : St) (w : World) (h : Rd K w p s) (hmo : most ≤ 9223372036854775807) (h0 : (sSize most s).1.1 ≠ 0) :
    Calls Tryd.prog 72 #[.pointer (some ⟨p, 0, none⟩), .int .i64 most] w fun e w' => ∃ n : Int, e = .returned (.tuple #[.int .i64 n, .bool false]) ∧ Rd K w' p (sSize most s).1 ∧ Keeps (fun k => k = p) w w' :=
  (RSize_any K p most s w h hmo).mono fun e w' ⟨n, h1, h2, h3, h4⟩ => ⟨n, by rw [h1, decide_eq_false h0], h3, h4⟩

def RBPost (K : Nat → Prop) (w : World) (p : Nat) (most : Int) (s : St) (r : Ending) (w' : World) : Prop :=
  ∃ a n c, r = .returned (.slice a n c) ∧ n = (sB most s).2.length ∧ Own (fun k => w.heap.size ≤ k) w' 5 1 (.slice a n c) n (u8s (sB most s).2) ∧ Rd K w' p (sB most s).1 ∧ Keeps (fun k => k = p) w w'
theorem rb_nil {K : Nat → Prop} {w w' : World} {p : Nat} {most : Int} {s t : St} (hs : sB most s = (t, [])) (hr : Rd K w' p t) (hk : Keeps (fun k => k = p) w w') : RBPost K w p most s (.returned (.slice none 0 0)) w' :=
  ⟨none, 0, 0, rfl, by rw [hs]; rfl, by rw [hs]; exact Own.nil _ _ _ _, by rw [hs]; exact hr, hk⟩

set_option maxRecDepth 100000 in set_option maxHeartbeats 400000 in
theorem RBytes_any (K : Nat → Prop) (p : Nat) (most : Int) (s : St) (w : World) (h : Rd K w p s) (hmo : most ≤ 9223372036854775807) :
    Calls Tryd.prog 51 #[.pointer (some ⟨p, 0, none⟩), .int .i64 most] w fun e w' => RBPost K w p most s e w' := by
  obtain ⟨i0, hi, hz0, hz1, hz2⟩ := info_parts infoU8
  have HR := hid h; have HMO := hid hmo; clear h hmo
  by_cases h0 : (sSize most s).1.1 = 0
  · have HS := hid (RSize_ok K p most s w HR.out HMO.out h0)
    have HB : Hd (sB most s = if (sSize most s).1.2.length < (sSize most s).2 then ((6, (sSize most s).1.2), []) else ((0, (sSize most s).1.2.drop (sSize most s).2), (sSize most s).1.2.take (sSize most s).2)) := hid (by rw [sB, if_pos h0])
    have HN : Hd (((sSize most s).2 : Int) ≤ 9223372036854775807) := hid (by have := HMO.out; rcases sSize_le most s with h | h <;> omega)
    clear h0
    generalize (sSize most s).2 = n at *
    generalize (sSize most s).1.2 = l at *
    go_enter Tryd.func51, Tryd.ntmps51
    go_wp2_with fail
    refine HS.out.mono ?_
    rintro e w1 ⟨rfl, h1⟩
    obtain ⟨⟨bv, bs, at_, g1, g2, g3, g4, g5, g6, g7, g8, g9, g10, g11, g12⟩, hk⟩ := h1
    replace hk := hid hk
    have G := hid (And.intro g6 (And.intro g7 (And.intro g8 (And.intro g9 (And.intro g10 g11))))); have G12 := hid (g12 rfl)
    obtain ⟨a, cap, rfl, hc1, hc2, hv⟩ := g6.bytes
    have HV := hid hv
    clear g6 g7 g8 g11 g12 hv
    simp only at g3
    have hll : Hd (l.length = bs.length - at_) := hid (by rw [show l = bs.drop at_ from G12.out]; simp)
    generalize hbl : bs.length = m at *
    have HBL := hid hbl; clear hbl
    have hml : m ≤ 140737488355000 := g10
    clear g10
    by_cases hsh : l.length < n
    · rw [if_pos hsh] at HB
      have hq : ((m : Int) - at_) < n := by have := hll.out; omega
      have hmm : (0 : Int) ≤ (m : Int) - at_ := by omega
      clear hsh
      go_wp2
      go_quiet (fail)
      go_wp2
      go_ret
      exact rb_nil HB.out (rd_of (e := 6) (rc_drewN (rc_set2 ⟨g1, g2, g3, g4, g5⟩ 6) _) ((keeps_set (fun k => k = p) w1 _ _ rfl).drewN _) (by have g := G.out; have hb := HBL.out; subst hb; exact g) (by simp)) (hk.out.trans ((keeps_set (fun k => k = p) w1 _ _ rfl).drewN _))
    · rw [if_neg hsh] at HB
      have hq : (n : Int) ≤ (m : Int) - at_ := by have := hll.out; omega
      have hmm : (0 : Int) ≤ (m : Int) - at_ := by omega
      have hmn : at_ + n ≤ m := by omega
      clear hsh
      go_wp2
      go_quiet (fail)
      go_wp2
      generalize hW : World.setCell (w1.drewN _) _ _ = W
      have hrc : RC W p (.slice a m cap) (at_ + n) 0 := by rw [← hW]; exact rc_set1 (rc_drewN ⟨g1, g2, g3, g4, g5⟩ _) _ (by omega)
      have hkw : Keeps (fun k => k = p) w1 W := by rw [← hW]; exact ((Keeps.refl (fun k => k = p) _).drewN _).setCell (.inl rfl) _
      have HRC := hid hrc; have HKW := hid hkw
      clear hkw hW g1 g2 g3 g4 g5
      obtain ⟨g1, g2, g3, g4, g5⟩ := hrc
      have e1 : IntKind.i64.wrap ((at_ : Int) + n - n) = at_ := by rw [show (at_ : Int) + n - n = at_ by omega, IntKind.wrap_i64]; omega
      have e2 : IntKind.i64.wrap (at_ : Int) = at_ := by rw [IntKind.wrap_i64]; omega
      have hrow : Row K W 1 (.slice a m cap) m (u8s bs) := by
        have g := G.out
        have h := g.1.keep HKW.out (fun b _ hb => by rintro rfl; exact g.2.1 hb)
        exact sl_row h (by simp [HBL.out])
      obtain ⟨a2, c2, hcut, hrow2⟩ := run_cut (P := Tryd.prog) (t := 22) Tryd.underlying22 hi hz1 hrow (lo := (at_ : Int)) (hh := (at_ : Int) + n) at_ (at_ + n) rfl (by omega) (by omega) hmn
      rw [show at_ + n - at_ = n by omega] at hcut hrow2
      have hS2 : Sl K W.drew (.slice a2 n c2) (u8s (l.take n)) := by
        have hl := G12.out
        have : ((u8s bs).drop (at_ * 1)).take (n * 1) = u8s (l.take n) := by rw [show l = bs.drop at_ from hl]; simp [u8s, List.map_take, List.map_drop]
        rw [this] at hrow2
        have h0 : (u8s (l.take n)).length = n := by have := hll.out; simp; omega
        unfold Sl; rw [h0]; exact hrow2
      have HS2 := hid hS2
      have HTL : Hd ((l.take n).length = n) := hid (by have := hll.out; simp; omega)
      clear hrow hrow2 hS2
      go_still_tail 15, (by kernel_rfl)
      change wpList _ _ _ _ _ W.drew
      go_wp2_with fail
      refine (CloneB_any K _ (l.take n) _ HS2.out (by have := HTL.out; omega)).mono ?_
      rintro e w2 ⟨a1, n1, c1, rfl, h6⟩; replace h6 := hid h6
      go_wp2
      go_ret
      have hkk : Keeps (fun k => k = p) w w2 := ((hk.out.trans HKW.out).drew).trans' h6.out.2.2 (fun _ _ h => h.elim)
      have hsz : w.heap.size ≤ W.heap.size := (hk.out.trans HKW.out).size
      refine ⟨a1, n1, c1, rfl, ?_, ?_, ?_, hkk⟩
      all_goals rw [HB.out]
      · rw [h6.out.1]; simp
      · exact h6.out.2.1.mono (fun b _ hb => Nat.le_trans hsz hb)
      · have hbl := HBL.out
        have hrd : Rd K W p (0, l.drop n) := rd_of (e := 0) (w1 := w1) (bs := bs) HRC.out HKW.out (by subst hbl; exact ⟨G.out.1, G.out.2.1, G.out.2.2.1, hmn, G.out.2.2.2.2⟩) (fun _ => by rw [show l = bs.drop at_ from G12.out, List.drop_drop])
        exact hrd.keep ((Keeps.refl (fun _ => False) W).drew.trans h6.out.2.2) (fun h => h) (fun _ _ _ h => h)
  · have HN : Hd (sB most s = ((sSize most s).1, [])) := hid (by rw [sB, if_neg h0])
    have HS := hid (RSize_no K p most s w HR.out HMO.out h0)
    have HNE := hid h0
    generalize (sSize most s).1 = t at *
    obtain ⟨e0, l0⟩ := t
    have t1 : (e0 != 0) = true := by simpa using h0
    clear h0
    go_enter Tryd.func51, Tryd.ntmps51
    go_wp2_with fail
    refine HS.out.mono ?_
    rintro e w1 ⟨n, rfl, h1, h2⟩
    have H1 := hid h1; have H2 := hid h2; clear h2
    obtain ⟨bv, bs, at_, g1, g2, g3, g4, g5, g6⟩ := h1
    clear g6
    simp only at g3
    go_wp2
    go_quiet (fail)
    go_wp2
    go_ret
    exact rb_nil HN.out (H1.out.keep ((Keeps.refl (fun _ => False) w1).drewN _) (fun h => h) (fun _ _ _ h => h)) (H2.out.drewN _)

theorem Rd.mono {K K' : Nat → Prop} {w : World} {p : Nat} {s : St} (h : Rd K w p s) (hK : ∀ b, b < w.heap.size → K b → K' b) (hp : ¬ K' p) : Rd K' w p s := by
  obtain ⟨bv, bs, at_, h1, h2, h3, h4, h5, h6, h7, h8, h9⟩ := h
  exact ⟨bv, bs, at_, h1, h2, h3, h4, h5, h6.mono hK, hp, h8, h9⟩
theorem Rd.len {K : Nat → Prop} {w : World} {p : Nat} {s : St} (h : Rd K w p s) : s.1 = 0 → s.2.length ≤ 140737488355000 := by
  obtain ⟨bv, bs, at_, h1, h2, h3, h4, h5, h6, h7, h8, h9, h10, h11, h12⟩ := h
  intro h0; rw [h12 h0]; simp; omega
end Go.Proofs.YtgfekgceeigdiaaDoor.Wi
namespace Go.Proofs.YtgfekgceeigdiaaDoor.Wi
open Go.RowKit
theorem sI_enc (r : List Nat) {n : Int} (h1 : -9223372036854775808 ≤ n) (h2 : n ≤ 9223372036854775807) : sI (0, encI n ++ r) = ((0, r), n) := by
  unfold sI encI
  rw [sU_enc r (zig_le h1 h2)]
  simp [zag_zig]
theorem sSize_enc (r : List Nat) {n : Nat} {most : Int} (h : n ≤ 18446744073709551615) (hm : (n : Int) ≤ most) : sSize most (0, enc n ++ r) = ((0, r), n) := by
  unfold sSize
  rw [sU_enc r h]
  have : ¬ (most < 0 ∨ most < n) := by omega
  simp [this]
def BufAt (w : World) (p : Nat) (xs : List Nat) : Prop := Buf (fun k => p < k) w p xs
theorem BufAt.lt {w : World} {p : Nat} {xs : List Nat} (h : BufAt w p xs) : p < w.heap.size := h.choose_spec.2.2.2.2
theorem BufAt.keep {S : Nat → Prop} {w w' : World} {p : Nat} {xs : List Nat} (h : BufAt w p xs) (hk : Keeps S w w') (hd : ∀ b, b < w.heap.size → p ≤ b → ¬ S b) : BufAt w' p xs := Buf.keep h hk (hd p h.lt (Nat.le_refl _)) (fun b hb hs => hd b hb (Nat.le_of_lt hs))
theorem BufAt.post {S : Nat → Prop} {w w' : World} {p : Nat} {xs ys : List Nat} (h0 : Buf S w p ys) (hS : ∀ b, S b → p < b) (h : BufPost S w p xs w') : BufAt w' p xs ∧ Keeps (fun k => p ≤ k) w w' := by
  have hp := h0.choose_spec.2.2.2.2
  obtain ⟨⟨v, h1, h2, h3, h4, h5⟩, h6⟩ := h
  exact ⟨⟨v, h1, h2, h3.mono (fun b _ hb => by rcases hb with hb | hb; exact hS b hb; omega), by omega, h5⟩, h6.mono (fun i _ hi => by rcases hi with hi | hi; exact Nat.le_of_lt (hS i hi); omega)⟩
theorem BufAt.new (w : World) (T : TypeId) : BufAt (w.alloc (.cells #[.slice none 0 0] T)) w.heap.size [] :=
  ⟨.slice none 0 0, by simp, by simp, Own.nil _ _ _ _, by omega, by simp⟩
theorem Rd.lt {K : Nat → Prop} {w : World} {p : Nat} {s : St} (h : Rd K w p s) : p < w.heap.size := by
  obtain ⟨bv, bs, at_, h1, h2, h3, h4, h5, h6, h7, h8, h9⟩ := h
  exact h8

end Go.Proofs.YtgfekgceeigdiaaDoor.Wi
