/- The wire format of the references: walks and plain facts. -/
import Derived.Test.YthoikljmokkchaaDoorProg
import Derived.Test.YthoikljmokkchaaDoorBase
import Derived.StillTailTactics
namespace Go.Proofs.YthoikljmokkchaaDoor.Wi

def enc (n : Nat) : List Nat := if n < 128 then [n] else (n % 128 + 128) :: enc (n / 128)
theorem enc_small {n : Nat} (h : n < 128) : enc n = [n] := by rw [enc, if_pos h]
theorem enc_big {n : Nat} (h : ¬ n < 128) : enc n = (n % 128 + 128) :: enc (n / 128) := by rw [enc, if_neg h]
theorem enc_length (j : Nat) : ∀ n, n < 128 ^ (j + 1) → (enc n).length ≤ j + 1 := by
  induction j with
  | zero => intro n h; rw [enc_small (by simpa using h)]; simp
  | succ j ih =>
    intro n h
    by_cases hn : n < 128
    · rw [enc_small hn]; simp
    · rw [enc_big hn]
      have := ih (n / 128) (by rw [Nat.pow_succ] at h; omega)
      simp; omega
theorem enc_len10 {n : Nat} (h : n ≤ 18446744073709551615) : (enc n).length ≤ 10 := enc_length 9 n (by omega)
theorem enc_pos (n : Nat) : 0 < (enc n).length := by rw [enc]; split <;> simp
theorem enc_lt (n : Nat) : ∀ c ∈ enc n, c < 256 := by
  induction n using Nat.strongRecOn with
  | _ n ih =>
    by_cases h : n < 128
    · rw [enc_small h]; simp; omega
    · rw [enc_big h]
      intro c hc
      rcases List.mem_cons.1 hc with rfl | hc
      · omega
      · exact ih (n / 128) (by omega) c hc

def zig (n : Int) : Nat := if 0 ≤ n then (2 * n).toNat else (-2 * n - 1).toNat
theorem zig_le {n : Int} (h1 : -9223372036854775808 ≤ n) (h2 : n ≤ 9223372036854775807) : zig n ≤ 18446744073709551615 := by unfold zig; split <;> omega
def encI (n : Int) : List Nat := enc (zig n)
def encB (b : List Nat) : List Nat := enc b.length ++ b
/-- a reader's state: the error, and what is left -/
abbrev St := Int × List Nat
/-- two states that nobody can tell apart -/
def SEq (s t : St) : Prop := s.1 = t.1 ∧ (s.1 = 0 → s.2 = t.2)
theorem SEq.refl (s : St) : SEq s s := ⟨rfl, fun _ => rfl⟩

end Go.Proofs.YthoikljmokkchaaDoor.Wi
namespace Go.Proofs.YthoikljmokkchaaDoor.Wi
open Go.RowKit
theorem infoU8 : (Tryd.prog.info? 5).map (fun i => (i.zero, i.size, i.bytes)) = some (some (.int .u8 0), 1, 1) := by kernel_rfl
theorem or128 (k : Nat) : bits BinOp.or IntKind.u8 ((k : Int) % 256) 128 = ((k % 128 + 128 : Nat) : Int) := by
  have h : ∀ x : Fin 256, bits BinOp.or IntKind.u8 ((x.val : Nat) : Int) 128 = ((x.val % 128 + 128 : Nat) : Int) := by decide +kernel
  have := h ⟨k % 256, Nat.mod_lt _ (by decide)⟩
  simp only at this
  rw [show ((k : Int) % 256) = ((k % 256 : Nat) : Int) by omega, this]
  omega
theorem xor_ones (x : Nat) (h : x < 18446744073709551616) : x ^^^ 18446744073709551615 = 18446744073709551615 - x := by
  have h1 : (BitVec.ofNat 64 x ^^^ BitVec.allOnes 64).toNat = (~~~ (BitVec.ofNat 64 x)).toNat := by rw [BitVec.xor_allOnes]
  rw [BitVec.toNat_xor, BitVec.toNat_not, BitVec.toNat_ofNat, BitVec.toNat_allOnes, Nat.mod_eq_of_lt (by omega)] at h1
  exact h1
theorem wrap_u64 (n : Int) : IntKind.u64.wrap n = n % 18446744073709551616 := by simp [IntKind.wrap, IntKind.bits, IntKind.signed]
theorem wrap_u64_nat {n : Nat} (h : n ≤ 1000000000000000) : IntKind.u64.wrap (n : Int) = n := by rw [wrap_u64]; omega
theorem zig_bits (n : Int) (h1 : -9223372036854775808 ≤ n) (h2 : n ≤ 9223372036854775807) :
    bits BinOp.xor IntKind.u64 (IntKind.u64.wrap (IntKind.u64.wrap n * 2)) (IntKind.u64.wrap (n / 9223372036854775808)) = ((zig n : Nat) : Int) := by
  simp only [wrap_u64]
  by_cases h : 0 ≤ n
  · rw [show n / 9223372036854775808 = 0 by omega, show (n % 18446744073709551616 * 2) % 18446744073709551616 = ((2 * n).toNat : Int) by omega, show (0 : Int) % 18446744073709551616 = ((0 : Nat) : Int) by decide,
      u64_xor_nat _ _ (by omega) (by omega), Nat.xor_zero]
    simp [zig, h]
  · rw [show n / 9223372036854775808 = -1 by omega, show (n % 18446744073709551616 * 2) % 18446744073709551616 = (((2 * n + 18446744073709551616).toNat : Nat) : Int) by omega,
      show (-1 : Int) % 18446744073709551616 = ((18446744073709551615 : Nat) : Int) by decide,
      u64_xor_nat _ _ (by omega) (by omega), xor_ones _ (by omega)]
    simp only [zig, h, if_false]; omega

/-- a buffer: a variable at the head of block p that holds a row of the call's own, the bytes xs -/
def Buf (S : Nat → Prop) (w : World) (p : Nat) (xs : List Nat) : Prop :=
  ∃ v, w.cell? ⟨p, 0, none⟩ = some v ∧ w.frozen? ⟨p, 0, none⟩ = false ∧ Own S w 5 1 v xs.length (u8s xs) ∧ ¬ S p ∧ p < w.heap.size
theorem Buf.keep {K S : Nat → Prop} {w w' : World} {p : Nat} {xs : List Nat} (h : Buf K w p xs) (hk : Keeps S w w') (hp : ¬ S p) (hd : ∀ b, b < w.heap.size → K b → ¬ S b) : Buf K w' p xs := by
  obtain ⟨v, h1, h2, h3, h4, h5⟩ := h
  exact ⟨v, (hk.cell (p := ⟨p, 0, none⟩) h5 hp).trans h1, (hk.frozen (p := ⟨p, 0, none⟩) h5 hp).trans h2, h3.keep hk hd, h4, Nat.lt_of_lt_of_le h5 hk.size⟩
/-- a slice header stored into the buffer's variable -/
theorem buf_store {S T : Nat → Prop} {w wr w1 : World} {p : Nat} {vk : Value} {a1 : Option Addr} {cap1 : Nat} {ys : List Nat} (hS : ¬ S p) (hp : p < w.heap.size) (hk : Keeps (fun k => S k ∨ k = p) w wr)
    (hg : Keeps (fun k => S k ∨ w.heap.size ≤ k) wr w1) (ho : Own T w1 5 1 (.slice a1 ys.length cap1) ys.length (u8s ys)) (hT : ∀ k, T k → S k ∨ w.heap.size ≤ k) (hc : wr.cell? ⟨p, 0, none⟩ = some vk) (hf : wr.frozen? ⟨p, 0, none⟩ = false) :
    Buf (fun k => S k ∨ w.heap.size ≤ k) (w1.setCell ⟨p, 0, none⟩ (.slice a1 ys.length cap1)) p ys ∧ Keeps (fun k => S k ∨ k = p) w (w1.setCell ⟨p, 0, none⟩ (.slice a1 ys.length cap1)) := by
  have h1 : ¬ (S p ∨ w.heap.size ≤ p) := fun h => by rcases h with h | h; exact hS h; omega
  have h2 : p < wr.heap.size := Nat.lt_of_lt_of_le hp hk.size
  refine ⟨⟨_, World.cell?_setCell_same w1 _ _ ((hg.cell (p := ⟨p, 0, none⟩) h2 h1).trans hc), ?_, ?_, h1, ?_⟩, ?_⟩
  · rw [World.frozen?_setCell]; exact (hg.frozen (p := ⟨p, 0, none⟩) h2 h1).trans hf
  · exact (ho.mono (fun b _ hb => hT b hb)).keep (keeps_set (fun k => k = p) w1 ⟨p, 0, none⟩ _ rfl) (fun b _ hb => by rintro rfl; exact h1 hb)
  · have := hg.size; simp [World.setCell]; omega
  · refine (hk.trans' hg (fun i hi hs => ?_)).setCell (.inl (.inr rfl)) _
    rcases hs with hs | hs
    · exact .inl hs
    · omega
theorem buf_cell {S : Nat → Prop} {w wr w1 : World} {p : Nat} {vk : Value} (hS : ¬ S p) (hp : p < w.heap.size) (hk : Keeps (fun k => S k ∨ k = p) w wr)
    (hg : Keeps (fun k => S k ∨ w.heap.size ≤ k) wr w1) (hc : wr.cell? ⟨p, 0, none⟩ = some vk) : ∃ q, w1.cell? ⟨p, 0, none⟩ = some q :=
  ⟨vk, (hg.cell (p := ⟨p, 0, none⟩) (Nat.lt_of_lt_of_le hp hk.size) (fun h => by rcases h with h | h; exact hS h; simp at h; omega)).trans hc⟩
theorem buf_free {S : Nat → Prop} {w wr w1 : World} {p : Nat} (hS : ¬ S p) (hp : p < w.heap.size) (hk : Keeps (fun k => S k ∨ k = p) w wr)
    (hg : Keeps (fun k => S k ∨ w.heap.size ≤ k) wr w1) (hc : wr.frozen? ⟨p, 0, none⟩ = false) : w1.frozen? ⟨p, 0, none⟩ = false :=
  (hg.frozen (p := ⟨p, 0, none⟩) (Nat.lt_of_lt_of_le hp hk.size) (fun h => by rcases h with h | h; exact hS h; simp at h; omega)).trans hc
/-- what a call that appends to the buffer leaves -/
def BufPost (S : Nat → Prop) (w : World) (p : Nat) (xs : List Nat) (w' : World) : Prop :=
  Buf (fun k => S k ∨ w.heap.size ≤ k) w' p xs ∧ Keeps (fun k => S k ∨ k = p) w w'

set_option maxRecDepth 100000 in
set_option maxHeartbeats 400000 in
theorem put_any (S : Nat → Prop) (p : Nat) (xs : List Nat) (n : Nat) (w : World) (hb : Buf S w p xs) (hn : n ≤ 18446744073709551615) (hm : xs.length ≤ 140737488355000) :
    Calls Tryd.prog 102 #[.pointer (some ⟨p, 0, none⟩), .int .u64 n] w fun e w' => e = .returned (.tuple #[]) ∧ BufPost S w p (xs ++ enc n) w' := by
  obtain ⟨i0, hi, hz0, hz1, hz2⟩ := info_parts infoU8
  obtain ⟨v, hc, hf, hown, hS, hp⟩ := hb
  have HO := hid hown; clear hown
  have HN := hid hn; clear hn
  have HM := hid hm; clear hm
  go_enter Tryd.func102, Tryd.ntmps102
  go_wp2
  go_loopw [1] (fun i wr => ∃ (k : Nat) (vk : Value) (pre : List Nat), i = .int .u64 k ∧ Hd (xs ++ enc n = pre ++ enc k) ∧ wr.cell? ⟨p, 0, none⟩ = some vk ∧ wr.frozen? ⟨p, 0, none⟩ = false
      ∧ Hd (Own (fun k => S k ∨ w.heap.size ≤ k) wr 5 1 vk pre.length (u8s pre)) ∧ Hd (Keeps (fun k => S k ∨ k = p) w wr)) (fun i _ => (intOf i).toNat)
  case atStart => exact ⟨n, v, xs, rfl, hid rfl, hc, hf, hid (HO.out.mono fun b _ hb => .inl hb), hid (Keeps.refl _ _)⟩
  case round =>
    obtain ⟨k, vk, pre, rfl, hpre, hc1, hf1, hown, hkeep⟩ := hrel
    have hsz := hkeep.out.size
    have hlen : Hd (pre.length + 1 ≤ 140737488355010) := hid (by
      have h1 := congrArg List.length hpre.out
      have h2 := enc_len10 HN.out
      have h3 := enc_pos k
      have h4 := HM.out
      simp at h1; omega)
    by_cases hlt : 128 ≤ k
    · go_wp2_with (at_builtin; refine wpList_append_row rfl _ _ 22 rfl 5 i0 (.int .u8 0) 1 1 Tryd.underlying22 hi hz0 hz1 hz2 rfl (by decide) _ (fun _ => True) _ _ _ _ rfl (hown.out.alloc _) 1 _ rfl (src_one _ _ trivial) (by intro u hu; simp at hu; subst hu; rfl) ?h1 ?h2 ?_)
      case h1 => have := hlen.out; simp [maxLen]; omega
      case h2 => have := hlen.out; omega
      intro a1 cap1 w1 hown' hgrow; try intro _
      have hbs := buf_store (ys := pre ++ [k % 128 + 128]) hS hp hkeep.out ((keeps_alloc _ wr _).trans hgrow) (by rw [or128] at hown'; simpa [u8s] using hown') (fun b hb => by
        rcases hb with hb | hb
        · exact hb
        · exact .inr (by omega)) hc1 hf1
      have hc2 : ∃ q, w1.cell? ⟨p, 0, none⟩ = some q := buf_cell hS hp hkeep.out ((keeps_alloc _ wr _).trans hgrow) hc1
      have hf2 : w1.frozen? ⟨p, 0, none⟩ = false := buf_free hS hp hkeep.out ((keeps_alloc _ wr _).trans hgrow) hf1
      obtain ⟨q, hc2⟩ := hc2
      clear hown' hgrow
      have HB := hid hbs; clear hbs
      go_wp2
      go_roundw
      case rel =>
        obtain ⟨⟨v2, g1, g2, g3, _, _⟩, g4⟩ := HB.out
        refine ⟨k / 128, v2, pre ++ [k % 128 + 128], by go_num, ?_, by simpa using g1, by simpa using g2, ?_, hid (by simpa using g4)⟩
        · exact hid (by rw [hpre.out, enc_big (by omega)]; simp)
        · exact hid (by simpa using g3)
      case measure => simp [intOf]; omega
    · go_wp2_with (at_builtin; refine wpList_append_row rfl _ _ 22 rfl 5 i0 (.int .u8 0) 1 1 Tryd.underlying22 hi hz0 hz1 hz2 rfl (by decide) _ (fun _ => True) _ _ _ _ rfl (hown.out.alloc _) 1 _ rfl (src_one _ _ trivial) (by intro u hu; simp at hu; subst hu; rfl) ?h1 ?h2 ?_)
      case h1 => have := hlen.out; simp [maxLen]; omega
      case h2 => have := hlen.out; omega
      intro a1 cap1 w1 hown' hgrow; try intro _
      have hbs := buf_store (ys := pre ++ [k]) hS hp hkeep.out ((keeps_alloc _ wr _).trans hgrow) (by simpa [u8s] using hown') (fun b hb => by
        rcases hb with hb | hb
        · exact hb
        · exact .inr (by omega)) hc1 hf1
      have hc2 : ∃ q, w1.cell? ⟨p, 0, none⟩ = some q := buf_cell hS hp hkeep.out ((keeps_alloc _ wr _).trans hgrow) hc1
      have hf2 : w1.frozen? ⟨p, 0, none⟩ = false := buf_free hS hp hkeep.out ((keeps_alloc _ wr _).trans hgrow) hf1
      obtain ⟨q, hc2⟩ := hc2
      clear hown' hgrow
      have HB := hid hbs; clear hbs
      go_wp2
      go_end0
      refine ⟨rfl, ?_⟩
      rw [hpre.out, enc_small (by omega)]
      unfold BufPost; simpa using HB.out

set_option maxRecDepth 100000 in
set_option maxHeartbeats 400000 in
theorem WUint_any (S : Nat → Prop) (p : Nat) (xs : List Nat) (n : Nat) (w : World) (hb : Buf S w p xs) (hn : n ≤ 18446744073709551615) (hm : xs.length ≤ 140737488355000) :
    Calls Tryd.prog 62 #[.pointer (some ⟨p, 0, none⟩), .int .u64 n] w fun e w' => e = .returned (.tuple #[]) ∧ BufPost S w p (xs ++ enc n) w' := by
  have HB := hid hb; have HN := hid hn; have HM := hid hm; clear hb hn hm
  go_enter Tryd.func62, Tryd.ntmps62
  go_wp2_with (go_at_call 102; refine (put_any S p xs n _ HB.out HN.out HM.out).mono ?_; rintro e w1 ⟨rfl, h1⟩)
  go_end0
  exact ⟨rfl, h1⟩

set_option maxRecDepth 100000 in
set_option maxHeartbeats 400000 in
theorem WInt_any (S : Nat → Prop) (p : Nat) (xs : List Nat) (n : Int) (w : World) (hb : Buf S w p xs) (h1 : -9223372036854775808 ≤ n) (h2 : n ≤ 9223372036854775807) (hm : xs.length ≤ 140737488355000) :
    Calls Tryd.prog 99 #[.pointer (some ⟨p, 0, none⟩), .int .i64 n] w fun e w' => e = .returned (.tuple #[]) ∧ BufPost S w p (xs ++ encI n) w' := by
  have HB := hid hb; have H1 := hid h1; have H2 := hid h2; have HM := hid hm; clear hb h1 h2 hm
  go_enter Tryd.func99, Tryd.ntmps99
  go_wp2_with fail
  rw [zig_bits n H1.out H2.out]
  refine (put_any S p xs (zig n) _ HB.out (zig_le H1.out H2.out) HM.out).mono ?_
  rintro e w1 ⟨rfl, h1⟩
  go_wp2
  go_end0
  exact ⟨rfl, h1⟩

theorem BufPost.trans {S : Nat → Prop} {w w1 w2 : World} {p : Nat} {xs ys : List Nat} (h : BufPost S w p xs w1) (k : BufPost (fun k => S k ∨ w.heap.size ≤ k) w1 p ys w2) : BufPost S w p ys w2 := by
  refine ⟨?_, h.2.trans' k.2 (fun i hi hs => ?_)⟩
  · obtain ⟨v, g1, g2, g3, g4, g5⟩ := k.1
    refine ⟨v, g1, g2, g3.mono (fun b _ hb => ?_), ?_, g5⟩
    · rcases hb with hb | hb
      · exact hb
      · have := h.2.size; exact .inr (by omega)
    · exact h.1.choose_spec.2.2.2.1
  · rcases hs with (hs | hs) | hs
    · exact .inl hs
    · omega
    · exact .inr hs

set_option maxRecDepth 100000 in
set_option maxHeartbeats 400000 in
theorem WBytes_any (S K : Nat → Prop) (p : Nat) (xs : List Nat) (v : Value) (b : List Nat) (w : World) (hb : Buf S w p xs) (hv : Sl K w v (u8s b)) (hK : ∀ k, k < w.heap.size → K k → ¬ S k ∧ k ≠ p) (hm : xs.length + b.length ≤ 140737488355000) :
    Calls Tryd.prog 100 #[.pointer (some ⟨p, 0, none⟩), v] w fun e w' => e = .returned (.tuple #[]) ∧ BufPost S w p (xs ++ encB b) w' := by
  obtain ⟨i0, hi, hz0, hz1, hz2⟩ := info_parts infoU8
  have hv0 := hid hv
  obtain ⟨a, cap, rfl, hc1, hc2, _⟩ := hv.bytes
  have HB := hid hb; have HM := hid hm; have HK := hid hK; clear hb hm hK hv
  generalize hbl : b.length = n at *
  have HBL := hid hbl; clear hbl
  go_enter Tryd.func100, Tryd.ntmps100
  go_wp2_with fail
  rw [wrap_u64_nat (by have := HM.out; omega)]
  refine (put_any S p xs n _ HB.out (by have := HM.out; omega) (by have := HM.out; omega)).mono ?_
  rintro e w1 ⟨rfl, h1⟩
  have hlen := enc_len10 (n := n) (by have := HM.out; omega)
  have HL := hid hlen; clear hlen
  have HP := hid h1
  obtain ⟨⟨v1, g1, g2, g3, g4, g5⟩, gk⟩ := h1
  have G3 := hid g3; have GK := hid gk; clear g3 gk g4
  have hsrc : Sl K w1 (.slice a n cap) (u8s b) := hv0.out.keep GK.out (fun k hk hh => by have := HK.out k hk hh; rintro (h | h); exact this.1 h; exact this.2 h)
  have HS := hid hsrc; clear hsrc
  go_wp2_with (at_builtin; refine wpList_append_row rfl _ _ 22 rfl 5 i0 (.int .u8 0) 1 1 Tryd.underlying22 hi hz0 hz1 hz2 rfl (by decide) _ K _ _ _ _ rfl G3.out n _ rfl (sl_row HS.out (by simp [HBL.out])) (u8s_one _) ?h1 ?h2 ?_)
  case h1 => have := HL.out; have := HM.out; simp [maxLen]; omega
  case h2 => have := HL.out; have := HM.out; simp; omega
  intro a1 cap1 w2 hown' hgrow; try intro _
  have hbs := buf_store (ys := xs ++ encB b) HB.out.choose_spec.2.2.2.1 HB.out.choose_spec.2.2.2.2 GK.out (hgrow.mono (fun i _ hs => hs)) (by simpa [encB, HBL.out, u8s_append, Nat.add_assoc] using hown') (fun b hb => by
        rcases hb with hb | hb
        · exact hb
        · exact .inr (Nat.le_trans GK.out.size hb)) g1 g2
  have hc2 : ∃ q, w2.cell? ⟨p, 0, none⟩ = some q := buf_cell HB.out.choose_spec.2.2.2.1 HB.out.choose_spec.2.2.2.2 GK.out (hgrow.mono (fun i _ hs => hs)) g1
  have hf2 : w2.frozen? ⟨p, 0, none⟩ = false := buf_free HB.out.choose_spec.2.2.2.1 HB.out.choose_spec.2.2.2.2 GK.out (hgrow.mono (fun i _ hs => hs)) g2
  obtain ⟨q, hc2⟩ := hc2
  clear hown' hgrow
  have HE := hid hbs; clear hbs
  go_wp2
  go_end0
  refine ⟨rfl, ?_⟩
  unfold BufPost; simpa [encB, HBL.out, Nat.add_assoc] using HE.out

set_option maxRecDepth 100000 in
/-- the result is a new row that holds the same -/
def NewRet (w : World) (e : TypeId) (xs : List Value) (r : Ending) (w' : World) : Prop := ∃ a n c, r = .returned (.slice a n c) ∧ n = xs.length ∧ Own (fun k => w.heap.size ≤ k) w' e 1 (.slice a n c) n xs ∧ Keeps (fun _ => False) w w'

set_option maxRecDepth 100000 in
set_option maxHeartbeats 400000 in
theorem CloneB_any (K : Nat → Prop) (v : Value) (b : List Nat) (w : World) (hv : Sl K w v (u8s b)) (hm : b.length ≤ 140737488355000) :
    Calls Tryd.prog 66 #[v] w fun e w' => NewRet w 5 (u8s b) e w' := by
  obtain ⟨i0, hi, hz0, hz1, hz2⟩ := info_parts infoU8
  have hv0 := hid hv
  have HM := hid hm; clear hm
  have hq : ∀ (w : World) (a : Option Addr) (n c n' c' : Nat), (binOp .eql 22 (.slice a n c) (.slice none n' c')).run Tryd.prog w = .ok (.bool a.isNone) w := fun w a n c n' c' => Lib.run_eql_slice_nil w _ _ a n c n' c' Tryd.underlying22
  rcases hv.bcases with ⟨rfl, rfl⟩ | ⟨bb, cap, rfl⟩
  · clear hv hv0
    go_enter Tryd.func66, Tryd.ntmps66
    go_wp2
    go_ret
    exact ⟨none, 0, 0, rfl, rfl, Own.nil _ _ _ _, Keeps.refl _ _⟩
  · clear hv
    have HS : Hd (Sl K (w.alloc (.cells #[] 5)) (.slice (some bb) b.length cap) (u8s b)) := hid (hv0.out.keep (keeps_alloc (fun _ => False) w (.cells #[] 5)) (fun _ _ _ h => h))
    generalize hbl : b.length = n at *
    have HBL := hid hbl; clear hbl
    have HO : Hd (Own (fun k => w.heap.size ≤ k) (w.alloc (.cells #[] 5)) 5 1 (.slice (some ⟨w.heap.size, 0, none⟩) 0 0) 0 []) :=
      hid ⟨World.ownsRow_lit w #[] 0 (Nat.zero_le _) (Nat.zero_le _) rfl, fun k hk => by injection hk with hk; simp at hk; omega⟩
    go_enter Tryd.func66, Tryd.ntmps66
    go_wp2_with (at_builtin; refine wpList_append_row rfl _ _ 22 rfl 5 i0 (.int .u8 0) 1 1 Tryd.underlying22 hi hz0 hz1 hz2 rfl (by decide) _ K _ _ _ _ rfl HO.out n _ rfl (sl_row HS.out (by simp [HBL.out])) (u8s_one _) ?h1 ?h2 ?_)
    case h1 => have := HM.out; simp [maxLen]; omega
    case h2 => have := HM.out; omega
    intro a1 cap1 w2 hown' hgrow; try intro _
    try simp only [Nat.zero_add, List.nil_append] at hown'
    have H1 := hid hown'; have H2 := hid hgrow; clear hown' hgrow
    go_wp2
    go_ret
    refine ⟨a1, n, cap1, by simp, by simp [HBL.out], ?_, ?_⟩
    · have h1 := H1.out.mono (K' := fun k => w.heap.size ≤ k) (fun b hb hh => by
        rcases hh with hh | hh
        · exact hh
        · omega)
      simpa [HBL.out] using h1
    · exact ((keeps_alloc _ w _).trans' H2.out (fun i hi hs => by omega))
set_option maxRecDepth 100000 in
set_option maxHeartbeats 400000 in
theorem WDone_any (S : Nat → Prop) (p : Nat) (xs : List Nat) (w : World) (hb : Buf S w p xs) (hm : xs.length ≤ 140737488355000) :
    Calls Tryd.prog 58 #[.pointer (some ⟨p, 0, none⟩)] w fun e w' => NewRet w 5 (u8s xs) e w' := by
  obtain ⟨v, h1, h2, h3, h4, h5⟩ := hb
  have H3 := hid h3; have HM := hid hm; clear h3 hm
  obtain ⟨a, cap, rfl, _⟩ := H3.out.row.form
  go_enter Tryd.func58, Tryd.ntmps58
  go_wp2_with (go_at_call 66; refine (CloneB_any S _ xs _ (by have := H3.out.row; unfold Sl; rw [u8s_length]; exact this) HM.out).mono ?_; rintro e w1 ⟨a1, n1, c1, rfl, h6⟩; replace h6 := hid h6)
  go_ret
  exact ⟨a1, n1, c1, rfl, h6.out⟩

/-- a reader: the error, and (where there is none) the bytes that are left; its bytes lie in blocks of K -/
def Rd (K : Nat → Prop) (w : World) (p : Nat) (s : St) : Prop :=
  ∃ bv bs at_, w.cell? ⟨p, 0, none⟩ = some bv ∧ w.cell? ⟨p, 1, none⟩ = some (.int .i64 (at_ : Nat)) ∧ w.cell? ⟨p, 2, none⟩ = some (.int .i64 s.1) ∧ w.frozen? ⟨p, 1, none⟩ = false ∧ w.frozen? ⟨p, 2, none⟩ = false ∧
    Sl K w bv (u8s bs) ∧ ¬ K p ∧ p < w.heap.size ∧ at_ ≤ bs.length ∧ bs.length ≤ 140737488355000 ∧ (∀ c ∈ bs, c < 256) ∧ (s.1 = 0 → s.2 = bs.drop at_)
theorem Rd.keep {K S : Nat → Prop} {w w' : World} {p : Nat} {s : St} (h : Rd K w p s) (hk : Keeps S w w') (hp : ¬ S p) (hd : ∀ b, b < w.heap.size → K b → ¬ S b) : Rd K w' p s := by
  obtain ⟨bv, bs, at_, h1, h2, h3, h4, h5, h6, h7, h8, h9⟩ := h
  exact ⟨bv, bs, at_, (hk.cell (p := ⟨p, 0, none⟩) h8 hp).trans h1, (hk.cell (p := ⟨p, 1, none⟩) h8 hp).trans h2, (hk.cell (p := ⟨p, 2, none⟩) h8 hp).trans h3, (hk.frozen (p := ⟨p, 1, none⟩) h8 hp).trans h4,
    (hk.frozen (p := ⟨p, 2, none⟩) h8 hp).trans h5, h6.keep hk hd, h7, Nat.lt_of_lt_of_le h8 hk.size, h9⟩
end Go.Proofs.YthoikljmokkchaaDoor.Wi
namespace Go.Proofs.YthoikljmokkchaaDoor.Wi
open Go.RowKit

end Go.Proofs.YthoikljmokkchaaDoor.Wi
namespace Go.Proofs.YthoikljmokkchaaDoor.Wi
open Go.RowKit

end Go.Proofs.YthoikljmokkchaaDoor.Wi
namespace Go.Proofs.YthoikljmokkchaaDoor.Wi
open Go.RowKit

theorem Rd.mono {K K' : Nat → Prop} {w : World} {p : Nat} {s : St} (h : Rd K w p s) (hK : ∀ b, b < w.heap.size → K b → K' b) (hp : ¬ K' p) : Rd K' w p s := by
  obtain ⟨bv, bs, at_, h1, h2, h3, h4, h5, h6, h7, h8, h9⟩ := h
  exact ⟨bv, bs, at_, h1, h2, h3, h4, h5, h6.mono hK, hp, h8, h9⟩
theorem Rd.len {K : Nat → Prop} {w : World} {p : Nat} {s : St} (h : Rd K w p s) : s.1 = 0 → s.2.length ≤ 140737488355000 := by
  obtain ⟨bv, bs, at_, h1, h2, h3, h4, h5, h6, h7, h8, h9, h10, h11, h12⟩ := h
  intro h0; rw [h12 h0]; simp; omega
end Go.Proofs.YthoikljmokkchaaDoor.Wi
namespace Go.Proofs.YthoikljmokkchaaDoor.Wi
open Go.RowKit
def BufAt (w : World) (p : Nat) (xs : List Nat) : Prop := Buf (fun k => p < k) w p xs
theorem BufAt.lt {w : World} {p : Nat} {xs : List Nat} (h : BufAt w p xs) : p < w.heap.size := h.choose_spec.2.2.2.2
theorem BufAt.keep {S : Nat → Prop} {w w' : World} {p : Nat} {xs : List Nat} (h : BufAt w p xs) (hk : Keeps S w w') (hd : ∀ b, b < w.heap.size → p ≤ b → ¬ S b) : BufAt w' p xs := Buf.keep h hk (hd p h.lt (Nat.le_refl _)) (fun b hb hs => hd b hb (Nat.le_of_lt hs))
theorem BufAt.post {S : Nat → Prop} {w w' : World} {p : Nat} {xs ys : List Nat} (h0 : Buf S w p ys) (hS : ∀ b, S b → p < b) (h : BufPost S w p xs w') : BufAt w' p xs ∧ Keeps (fun k => p ≤ k) w w' := by
  have hp := h0.choose_spec.2.2.2.2
  obtain ⟨⟨v, h1, h2, h3, h4, h5⟩, h6⟩ := h
  exact ⟨⟨v, h1, h2, h3.mono (fun b _ hb => by rcases hb with hb | hb; exact hS b hb; omega), by omega, h5⟩, h6.mono (fun i _ hi => by rcases hi with hi | hi; exact Nat.le_of_lt (hS i hi); omega)⟩
theorem BufAt.tight {w : World} {p : Nat} {xs : List Nat} (h : BufAt w p xs) : Buf (fun k => p < k ∧ k < w.heap.size) w p xs := by
  obtain ⟨v, h1, h2, h3, h4, h5⟩ := h
  exact ⟨v, h1, h2, h3.mono (fun b hb h => ⟨h, hb⟩), by omega, h5⟩
theorem BufAt.new (w : World) (T : TypeId) : BufAt (w.alloc (.cells #[.slice none 0 0] T)) w.heap.size [] :=
  ⟨.slice none 0 0, by simp, by simp, Own.nil _ _ _ _, by omega, by simp⟩
theorem Rd.lt {K : Nat → Prop} {w : World} {p : Nat} {s : St} (h : Rd K w p s) : p < w.heap.size := by
  obtain ⟨bv, bs, at_, h1, h2, h3, h4, h5, h6, h7, h8, h9⟩ := h
  exact h8

end Go.Proofs.YthoikljmokkchaaDoor.Wi
namespace Go.Proofs.YthoikljmokkchaaDoor.Wi
open Go.RowKit

set_option maxRecDepth 100000 in set_option maxHeartbeats 400000 in
theorem EUint_any (n : Nat) (w : World) (hn : n ≤ 18446744073709551615) :
    Calls Tryd.prog 59 #[.int .u64 n] w fun e w' => NewRet w 5 (u8s (enc n)) e w' := by
  obtain ⟨i0, hi, hz0, hz1, hz2⟩ := info_parts infoU8
  have HN := hid hn; clear hn
  go_enter Tryd.func59, Tryd.ntmps59
  go_wp2
  go_loopw [0, 3] (fun i o wr => ∃ (k : Nat) (a : Option Addr) (m c : Nat) (pre : List Nat), i = .int .u64 k ∧ o = .slice a m c ∧ m ≤ 10 ∧ Hd (k ≤ 18446744073709551615) ∧ Hd (m = pre.length) ∧ Hd (enc n = pre ++ enc k)
      ∧ Hd (Own (fun b => w.heap.size ≤ b) wr 5 1 (.slice a m c) m (u8s pre)) ∧ Hd (Keeps (fun _ => False) w wr)) (fun i _ _ => (intOf i).toNat)
  case atStart => exact ⟨n, none, 0, 0, [], rfl, rfl, by omega, HN, hid rfl, hid rfl, hid (Own.nil _ _ _ _), hid (Keeps.refl _ _)⟩
  case round =>
    obtain ⟨k, a, m, c, pre, rfl, rfl, hm, hkN, hml, hpre, hown, hkeep⟩ := hrel
    have hd : IntKind.u64.wrap ((k : Int) / 128) = (k : Int) / 128 := by rw [wrap_u64]; have := hkN.out; omega
    have hsz := hkeep.out.size
    have hlen : Hd (m + 1 ≤ 10) := hid (by
      have h1 := congrArg List.length hpre.out
      have h2 := enc_len10 HN.out
      have h3 := enc_pos k
      have h4 := hml.out
      simp at h1; omega)
    by_cases hlt : 127 < k
    · go_wp2_with (at_builtin; refine wpList_append_row rfl _ _ 22 rfl 5 i0 (.int .u8 0) 1 1 Tryd.underlying22 hi hz0 hz1 hz2 rfl (by decide) _ (fun _ => True) _ _ _ _ rfl (hown.out.alloc _) 1 _ rfl (src_one _ _ trivial) (by intro u hu; simp at hu; subst hu; rfl) ?h1 ?h2 ?_)
      case h1 => simp [maxLen]; omega
      case h2 => omega
      intro a1 cap1 w1 hown' hgrow; try intro _
      have H5 := hid hown'
      have HK5 : Hd (Keeps (fun b => w.heap.size ≤ b) wr w1) := hid ((keeps_alloc _ wr _).trans hgrow)
      clear hown' hgrow
      go_wp2
      go_roundw
      case rel =>
        refine ⟨k / 128, a1, m + 1, cap1, pre ++ [k % 128 + 128], by go_num, rfl, by have := hlen.out; omega, hid (by have := hkN.out; omega), hid (by simp [hml.out]), hid (by rw [hpre.out, enc_big (by omega)]; simp), hid ?_, hid (hkeep.out.after HK5.out)⟩
        have := H5.out.mono (K' := fun b => w.heap.size ≤ b) (fun b _ hb => by rcases hb with hb | hb <;> omega)
        simpa [u8s] using this
      case measure => simp [intOf]; omega
    · go_wp2_with (at_builtin; refine wpList_append_row rfl _ _ 22 rfl 5 i0 (.int .u8 0) 1 1 Tryd.underlying22 hi hz0 hz1 hz2 rfl (by decide) _ (fun _ => True) _ _ _ _ rfl (hown.out.alloc _) 1 _ rfl (src_one _ _ trivial) (by intro u hu; simp at hu; subst hu; rfl) ?h1 ?h2 ?_)
      case h1 => simp [maxLen]; omega
      case h2 => omega
      intro a1 cap1 w1 hown' hgrow; try intro _
      have H5 := hid hown'
      have HK5 : Hd (Keeps (fun b => w.heap.size ≤ b) wr w1) := hid ((keeps_alloc _ wr _).trans hgrow)
      clear hown' hgrow
      have HE : Hd (enc n = pre ++ [k]) := hid (by rw [hpre.out, enc_small (by omega)])
      go_wp2
      go_ret
      refine ⟨a1, m + 1, cap1, rfl, by rw [HE.out]; simp [hml.out], ?_, hkeep.out.after HK5.out⟩
      have := H5.out.mono (K' := fun b => w.heap.size ≤ b) (fun b _ hb => by rcases hb with hb | hb <;> omega)
      rw [HE.out]
      simpa [u8s] using this
set_option maxRecDepth 100000 in set_option maxHeartbeats 400000 in
theorem EZig_any (n : Int) (w : World) (h1 : -9223372036854775808 ≤ n) (h2 : n ≤ 9223372036854775807) :
    Calls Tryd.prog 101 #[.int .i64 n] w fun e w' => e = .returned (.int .u64 (zig n : Nat)) ∧ w = w' := by
  have H1 := hid h1; have H2 := hid h2; clear h1 h2
  by_cases h : 0 ≤ n
  · have HZ : Hd (((zig n : Nat) : Int) = IntKind.u64.wrap (2 * IntKind.u64.wrap n)) := hid (by have := H1.out; have := H2.out; simp only [zig, if_pos h, wrap_u64]; omega)
    go_enter Tryd.func101, Tryd.ntmps101
    go_wp2
    go_ret
    exact ⟨ret_int HZ.out.symm, rfl⟩
  · have hlt : n < 0 := by omega
    have HZ : Hd (((zig n : Nat) : Int) = IntKind.u64.wrap (IntKind.u64.wrap (2 * IntKind.u64.wrap (wrap64 (-(wrap64 (n + 1))))) + 1)) := hid (by have := H1.out; have := H2.out; simp only [zig, if_neg h, wrap_u64]; unfold wrap64; omega)
    clear h
    go_enter Tryd.func101, Tryd.ntmps101
    go_wp2
    go_ret
    exact ⟨ret_int HZ.out.symm, rfl⟩

set_option maxRecDepth 100000 in set_option maxHeartbeats 400000 in
theorem EInt_any (n : Int) (w : World) (h1 : -9223372036854775808 ≤ n) (h2 : n ≤ 9223372036854775807) :
    Calls Tryd.prog 60 #[.int .i64 n] w fun e w' => NewRet w 5 (u8s (encI n)) e w' := by
  have H1 := hid h1; have H2 := hid h2; clear h1 h2
  go_enter Tryd.func60, Tryd.ntmps60
  go_wp2_with fail
  refine (EZig_any n _ H1.out H2.out).mono ?_
  rintro e w1 ⟨rfl, rfl⟩
  go_wp2_with fail
  refine (EUint_any (zig n) _ (zig_le H1.out H2.out)).mono ?_
  rintro e w1 ⟨a, m, c, rfl, h⟩
  replace h := hid h
  go_wp2
  go_ret
  exact ⟨a, m, c, rfl, h.out⟩

set_option maxRecDepth 100000 in set_option maxHeartbeats 400000 in
theorem EBytes_any (K : Nat → Prop) (v : Value) (b : List Nat) (w : World) (hv : Sl K w v (u8s b)) (hm : b.length ≤ 140737488355000) :
    Calls Tryd.prog 61 #[v] w fun e w' => NewRet w 5 (u8s (encB b)) e w' := by
  obtain ⟨i0, hi, hz0, hz1, hz2⟩ := info_parts infoU8
  have hv0 := hid hv
  obtain ⟨a, cap, rfl, hc1, hc2, _⟩ := hv.bytes
  clear hv
  generalize hbl : b.length = n at *
  have HBL := hid hbl; clear hbl
  go_enter Tryd.func61, Tryd.ntmps61
  go_wp2_with fail
  refine (EUint_any n _ (by omega)).mono ?_
  rintro e w1 ⟨a1, n1, c1, rfl, hn1, ho, hk⟩
  have hl := enc_len10 (n := n) (by omega)
  have hnb : n1 ≤ 10 := by rw [hn1]; simpa using hl
  have HN1 := hid hn1; have HO := hid ho; have HK := hid hk
  clear hn1 ho hk hl
  have HS := hid (hv0.out.keep HK.out (fun _ _ _ h => h))
  go_wp2_with (at_builtin; refine wpList_append_row rfl _ _ 22 rfl 5 i0 (.int .u8 0) 1 1 Tryd.underlying22 hi hz0 hz1 hz2 rfl (by decide) _ K _ _ _ _ rfl HO.out n _ rfl (sl_row HS.out (by simp [HBL.out])) (u8s_one _) ?h1 ?h2 ?_)
  case h1 => simp [maxLen]; omega
  case h2 => omega
  intro a2 cap2 w2 hown' hgrow; try intro _
  have H5 := hid hown'; have H6 := hid hgrow; clear hown' hgrow
  go_wp2
  go_ret
  refine ⟨a2, n1 + n, cap2, rfl, ?_, ?_, HK.out.after H6.out⟩
  · rw [HN1.out]; simp [encB, HBL.out]
  · have := H5.out.mono (K' := fun b => w.heap.size ≤ b) (fun b _ hb => by have := HK.out.size; rcases hb with hb | hb <;> omega)
    rw [← u8s_append] at this
    rw [encB, HBL.out]; exact this

end Go.Proofs.YthoikljmokkchaaDoor.Wi
