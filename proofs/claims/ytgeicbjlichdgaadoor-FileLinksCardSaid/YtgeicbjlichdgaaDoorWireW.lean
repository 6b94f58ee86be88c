/- The walks of package wire's Writer. -/
import Derived.Test.YtgeicbjlichdgaaDoorProg
import Derived.Test.YtgeicbjlichdgaaDoorBase
import Derived.Test.YtgeicbjlichdgaaDoorWireMath
namespace Go.Proofs.YtgeicbjlichdgaaDoor.Wi
open Go.RowKit
theorem infoU8 : (Tryd.prog.info? 5).map (fun i => (i.zero, i.size, i.bytes)) = some (some (.int .u8 0), 1, 1) := by kernel_rfl
theorem or128 (k : Nat) : bits BinOp.or IntKind.u8 ((k : Int) % 256) 128 = ((k % 128 + 128 : Nat) : Int) := by
  have h : ∀ x : Fin 256, bits BinOp.or IntKind.u8 ((x.val : Nat) : Int) 128 = ((x.val % 128 + 128 : Nat) : Int) := by decide +kernel
  have := h ⟨k % 256, Nat.mod_lt _ (by decide)⟩
  simp only at this
  rw [show ((k : Int) % 256) = ((k % 256 : Nat) : Int) by omega, this]
  omega
theorem xor_ones (x : Nat) (h : x < 18446744073709551616) : x ^^^ 18446744073709551615 = 18446744073709551615 - x := by
  have h1 : (BitVec.ofNat 64 x ^^^ BitVec.allOnes 64).toNat = (~~~ (BitVec.ofNat 64 x)).toNat := by rw [BitVec.xor_allOnes]
  rw [BitVec.toNat_xor, BitVec.toNat_not, BitVec.toNat_ofNat, BitVec.toNat_allOnes, Nat.mod_eq_of_lt (by omega)] at h1
  exact h1
theorem wrap_u64 (n : Int) : IntKind.u64.wrap n = n % 18446744073709551616 := by simp [IntKind.wrap, IntKind.bits, IntKind.signed]
theorem wrap_u64_nat {n : Nat} (h : n ≤ 1000000000000000) : IntKind.u64.wrap (n : Int) = n := by rw [wrap_u64]; omega
theorem zig_bits (n : Int) (h1 : -9223372036854775808 ≤ n) (h2 : n ≤ 9223372036854775807) :
    bits BinOp.xor IntKind.u64 (IntKind.u64.wrap (IntKind.u64.wrap n * 2)) (IntKind.u64.wrap (n / 9223372036854775808)) = ((zig n : Nat) : Int) := by
  simp only [wrap_u64]
  by_cases h : 0 ≤ n
  · rw [show n / 9223372036854775808 = 0 by omega, show (n % 18446744073709551616 * 2) % 18446744073709551616 = ((2 * n).toNat : Int) by omega, show (0 : Int) % 18446744073709551616 = ((0 : Nat) : Int) by decide,
      u64_xor_nat _ _ (by omega) (by omega), Nat.xor_zero]
    simp [zig, h]
  · rw [show n / 9223372036854775808 = -1 by omega, show (n % 18446744073709551616 * 2) % 18446744073709551616 = (((2 * n + 18446744073709551616).toNat : Nat) : Int) by omega,
      show (-1 : Int) % 18446744073709551616 = ((18446744073709551615 : Nat) : Int) by decide,
      u64_xor_nat _ _ (by omega) (by omega), xor_ones _ (by omega)]
    simp only [zig, h, if_false]; omega

/-- a buffer: a variable at the head of block p that holds a row of the call's own, the bytes xs -/
def Buf (S : Nat → Prop) (w : World) (p : Nat) (xs : List Nat) : Prop :=
  ∃ v, w.cell? ⟨p, 0, none⟩ = some v ∧ w.frozen? ⟨p, 0, none⟩ = false ∧ Own S w 5 1 v xs.length (u8s xs) ∧ ¬ S p ∧ p < w.heap.size
theorem Buf.keep {K S : Nat → Prop} {w w' : World} {p : Nat} {xs : List Nat} (h : Buf K w p xs) (hk : Keeps S w w') (hp : ¬ S p) (hd : ∀ b, b < w.heap.size → K b → ¬ S b) : Buf K w' p xs := by
  obtain ⟨v, h1, h2, h3, h4, h5⟩ := h
  exact ⟨v, (hk.cell (p := ⟨p, 0, none⟩) h5 hp).trans h1, (hk.frozen (p := ⟨p, 0, none⟩) h5 hp).trans h2, h3.keep hk hd, h4, Nat.lt_of_lt_of_le h5 hk.size⟩
/-- a slice header stored into the buffer's variable -/
theorem buf_store {S T : Nat → Prop} {w wr w1 : World} {p : Nat} {vk : Value} {a1 : Option Addr} {cap1 : Nat} {ys : List Nat} (hS : ¬ S p) (hp : p < w.heap.size) (hk : Keeps (fun k => S k ∨ k = p) w wr)
    (hg : Keeps (fun k => S k ∨ w.heap.size ≤ k) wr w1) (ho : Own T w1 5 1 (.slice a1 ys.length cap1) ys.length (u8s ys)) (hT : ∀ k, T k → S k ∨ w.heap.size ≤ k) (hc : wr.cell? ⟨p, 0, none⟩ = some vk) (hf : wr.frozen? ⟨p, 0, none⟩ = false) :
    Buf (fun k => S k ∨ w.heap.size ≤ k) (w1.setCell ⟨p, 0, none⟩ (.slice a1 ys.length cap1)) p ys ∧ Keeps (fun k => S k ∨ k = p) w (w1.setCell ⟨p, 0, none⟩ (.slice a1 ys.length cap1)) := by
  have h1 : ¬ (S p ∨ w.heap.size ≤ p) := fun h => by rcases h with h | h; exact hS h; omega
  have h2 : p < wr.heap.size := Nat.lt_of_lt_of_le hp hk.size
  refine ⟨⟨_, World.cell?_setCell_same w1 _ _ ((hg.cell (p := ⟨p, 0, none⟩) h2 h1).trans hc), ?_, ?_, h1, ?_⟩, ?_⟩
  · rw [World.frozen?_setCell]; exact (hg.frozen (p := ⟨p, 0, none⟩) h2 h1).trans hf
  · exact (ho.mono (fun b _ hb => hT b hb)).keep (keeps_set (fun k => k = p) w1 ⟨p, 0, none⟩ _ rfl) (fun b _ hb => by rintro rfl; exact h1 hb)
  · have := hg.size; simp [World.setCell]; omega
  · refine (hk.trans' hg (fun i hi hs => ?_)).setCell (.inl (.inr rfl)) _
    rcases hs with hs | hs
    · exact .inl hs
    · omega
theorem buf_cell {S : Nat → Prop} {w wr w1 : World} {p : Nat} {vk : Value} (hS : ¬ S p) (hp : p < w.heap.size) (hk : Keeps (fun k => S k ∨ k = p) w wr)
    (hg : Keeps (fun k => S k ∨ w.heap.size ≤ k) wr w1) (hc : wr.cell? ⟨p, 0, none⟩ = some vk) : ∃ q, w1.cell? ⟨p, 0, none⟩ = some q :=
  ⟨vk, (hg.cell (p := ⟨p, 0, none⟩) (Nat.lt_of_lt_of_le hp hk.size) (fun h => by rcases h with h | h; exact hS h; simp at h; omega)).trans hc⟩
theorem buf_free {S : Nat → Prop} {w wr w1 : World} {p : Nat} (hS : ¬ S p) (hp : p < w.heap.size) (hk : Keeps (fun k => S k ∨ k = p) w wr)
    (hg : Keeps (fun k => S k ∨ w.heap.size ≤ k) wr w1) (hc : wr.frozen? ⟨p, 0, none⟩ = false) : w1.frozen? ⟨p, 0, none⟩ = false :=
  (hg.frozen (p := ⟨p, 0, none⟩) (Nat.lt_of_lt_of_le hp hk.size) (fun h => by rcases h with h | h; exact hS h; simp at h; omega)).trans hc
/-- what a call that appends to the buffer leaves -/
def BufPost (S : Nat → Prop) (w : World) (p : Nat) (xs : List Nat) (w' : World) : Prop :=
  Buf (fun k => S k ∨ w.heap.size ≤ k) w' p xs ∧ Keeps (fun k => S k ∨ k = p) w w'

set_option maxRecDepth 100000 in
set_option maxHeartbeats 400000 in
theorem put_any (S : Nat → Prop) (p : Nat) (xs : List Nat) (n : Nat) (w : World) (hb : Buf S w p xs) (hn : n ≤ 18446744073709551615) (hm : xs.length ≤ 1000000000000) :
    Calls Tryd.prog 63 #[.pointer (some ⟨p, 0, none⟩), .int .u64 n] w fun e w' => e = .returned (.tuple #[]) ∧ BufPost S w p (xs ++ enc n) w' := by
  obtain ⟨i0, hi, hz0, hz1, hz2⟩ := info_parts infoU8
  obtain ⟨v, hc, hf, hown, hS, hp⟩ := hb
  have HO := hid hown; clear hown
  have HN := hid hn; clear hn
  have HM := hid hm; clear hm
  go_enter Tryd.func63, Tryd.ntmps63
  go_wp2
  go_loopw [1] (fun i wr => ∃ (k : Nat) (vk : Value) (pre : List Nat), i = .int .u64 k ∧ Hd (xs ++ enc n = pre ++ enc k) ∧ wr.cell? ⟨p, 0, none⟩ = some vk ∧ wr.frozen? ⟨p, 0, none⟩ = false
      ∧ Hd (Own (fun k => S k ∨ w.heap.size ≤ k) wr 5 1 vk pre.length (u8s pre)) ∧ Hd (Keeps (fun k => S k ∨ k = p) w wr)) (fun i _ => (intOf i).toNat)
  case atStart => exact ⟨n, v, xs, rfl, hid rfl, hc, hf, hid (HO.out.mono fun b _ hb => .inl hb), hid (Keeps.refl _ _)⟩
  case round =>
    obtain ⟨k, vk, pre, rfl, hpre, hc1, hf1, hown, hkeep⟩ := hrel
    have hsz := hkeep.out.size
    have hlen : Hd (pre.length + 1 ≤ 1000000000010) := hid (by
      have h1 := congrArg List.length hpre.out
      have h2 := enc_len10 HN.out
      have h3 := enc_pos k
      have h4 := HM.out
      simp at h1; omega)
    by_cases hlt : 128 ≤ k
    · go_wp2_with (at_builtin; refine wpList_append_row rfl _ _ 22 rfl 5 i0 (.int .u8 0) 1 1 Tryd.underlying22 hi hz0 hz1 hz2 rfl (by decide) _ (fun _ => True) _ _ _ _ rfl (hown.out.alloc _) 1 _ rfl (src_one _ _ trivial) (by intro u hu; simp at hu; subst hu; rfl) ?h1 ?h2 ?_)
      case h1 => have := hlen.out; simp [maxLen]; omega
      case h2 => have := hlen.out; omega
      intro a1 cap1 w1 hown' hgrow; try intro _
      have hbs := buf_store (ys := pre ++ [k % 128 + 128]) hS hp hkeep.out ((keeps_alloc _ wr _).trans hgrow) (by rw [or128] at hown'; simpa [u8s] using hown') (fun b hb => by
        rcases hb with hb | hb
        · exact hb
        · exact .inr (by omega)) hc1 hf1
      have hc2 : ∃ q, w1.cell? ⟨p, 0, none⟩ = some q := buf_cell hS hp hkeep.out ((keeps_alloc _ wr _).trans hgrow) hc1
      have hf2 : w1.frozen? ⟨p, 0, none⟩ = false := buf_free hS hp hkeep.out ((keeps_alloc _ wr _).trans hgrow) hf1
      obtain ⟨q, hc2⟩ := hc2
      clear hown' hgrow
      have HB := hid hbs; clear hbs
      go_wp2
      go_roundw
      case rel =>
        obtain ⟨⟨v2, g1, g2, g3, _, _⟩, g4⟩ := HB.out
        refine ⟨k / 128, v2, pre ++ [k % 128 + 128], by go_num, ?_, by simpa using g1, by simpa using g2, ?_, hid (by simpa using g4)⟩
        · exact hid (by rw [hpre.out, enc_big (by omega)]; simp)
        · exact hid (by simpa using g3)
      case measure => simp [intOf]; omega
    · go_wp2_with (at_builtin; refine wpList_append_row rfl _ _ 22 rfl 5 i0 (.int .u8 0) 1 1 Tryd.underlying22 hi hz0 hz1 hz2 rfl (by decide) _ (fun _ => True) _ _ _ _ rfl (hown.out.alloc _) 1 _ rfl (src_one _ _ trivial) (by intro u hu; simp at hu; subst hu; rfl) ?h1 ?h2 ?_)
      case h1 => have := hlen.out; simp [maxLen]; omega
      case h2 => have := hlen.out; omega
      intro a1 cap1 w1 hown' hgrow; try intro _
      have hbs := buf_store (ys := pre ++ [k]) hS hp hkeep.out ((keeps_alloc _ wr _).trans hgrow) (by simpa [u8s] using hown') (fun b hb => by
        rcases hb with hb | hb
        · exact hb
        · exact .inr (by omega)) hc1 hf1
      have hc2 : ∃ q, w1.cell? ⟨p, 0, none⟩ = some q := buf_cell hS hp hkeep.out ((keeps_alloc _ wr _).trans hgrow) hc1
      have hf2 : w1.frozen? ⟨p, 0, none⟩ = false := buf_free hS hp hkeep.out ((keeps_alloc _ wr _).trans hgrow) hf1
      obtain ⟨q, hc2⟩ := hc2
      clear hown' hgrow
      have HB := hid hbs; clear hbs
      go_wp2
      go_end0
      refine ⟨rfl, ?_⟩
      rw [hpre.out, enc_small (by omega)]
      unfold BufPost; simpa using HB.out

set_option maxRecDepth 100000 in
set_option maxRecDepth 100000 in
set_option maxHeartbeats 400000 in
theorem WInt_any (S : Nat → Prop) (p : Nat) (xs : List Nat) (n : Int) (w : World) (hb : Buf S w p xs) (h1 : -9223372036854775808 ≤ n) (h2 : n ≤ 9223372036854775807) (hm : xs.length ≤ 1000000000000) :
    Calls Tryd.prog 64 #[.pointer (some ⟨p, 0, none⟩), .int .i64 n] w fun e w' => e = .returned (.tuple #[]) ∧ BufPost S w p (xs ++ encI n) w' := by
  have HB := hid hb; have H1 := hid h1; have H2 := hid h2; have HM := hid hm; clear hb h1 h2 hm
  go_enter Tryd.func64, Tryd.ntmps64
  go_wp2_with fail
  rw [zig_bits n H1.out H2.out]
  refine (put_any S p xs (zig n) _ HB.out (zig_le H1.out H2.out) HM.out).mono ?_
  rintro e w1 ⟨rfl, h1⟩
  go_wp2
  go_end0
  exact ⟨rfl, h1⟩

theorem flatMap_len (l : List Int) (h : ∀ n ∈ l, -9223372036854775808 ≤ n ∧ n ≤ 9223372036854775807) : (l.flatMap encI).length ≤ 10 * l.length := by
  induction l with
  | nil => simp
  | cons x l ih =>
    have h1 := h x List.mem_cons_self
    have h2 := enc_len10 (zig_le h1.1 h1.2)
    have h3 := ih (fun n hn => h n (List.mem_cons_of_mem _ hn))
    simp only [List.flatMap_cons, List.length_append, List.length_cons, encI] at *
    omega
theorem BufPost.trans {S : Nat → Prop} {w w1 w2 : World} {p : Nat} {xs ys : List Nat} (h : BufPost S w p xs w1) (k : BufPost (fun k => S k ∨ w.heap.size ≤ k) w1 p ys w2) : BufPost S w p ys w2 := by
  refine ⟨?_, h.2.trans' k.2 (fun i hi hs => ?_)⟩
  · obtain ⟨v, g1, g2, g3, g4, g5⟩ := k.1
    refine ⟨v, g1, g2, g3.mono (fun b _ hb => ?_), ?_, g5⟩
    · rcases hb with hb | hb
      · exact hb
      · have := h.2.size; exact .inr (by omega)
    · exact h.1.choose_spec.2.2.2.1
  · rcases hs with (hs | hs) | hs
    · exact .inl hs
    · omega
    · exact .inr hs

set_option maxRecDepth 100000 in
set_option maxHeartbeats 400000 in
theorem WBytes_any (S K : Nat → Prop) (p : Nat) (xs : List Nat) (v : Value) (b : List Nat) (w : World) (hb : Buf S w p xs) (hv : Sl K w v (u8s b)) (hK : ∀ k, k < w.heap.size → K k → ¬ S k ∧ k ≠ p) (hm : xs.length + b.length ≤ 1000000000000) :
    Calls Tryd.prog 52 #[.pointer (some ⟨p, 0, none⟩), v] w fun e w' => e = .returned (.tuple #[]) ∧ BufPost S w p (xs ++ encB b) w' := by
  obtain ⟨i0, hi, hz0, hz1, hz2⟩ := info_parts infoU8
  have hv0 := hid hv
  obtain ⟨a, cap, rfl, hc1, hc2, _⟩ := hv.bytes
  have HB := hid hb; have HM := hid hm; have HK := hid hK; clear hb hm hK hv
  generalize hbl : b.length = n at *
  have HBL := hid hbl; clear hbl
  go_enter Tryd.func52, Tryd.ntmps52
  go_wp2_with fail
  rw [wrap_u64_nat (by have := HM.out; omega)]
  refine (put_any S p xs n _ HB.out (by have := HM.out; omega) (by have := HM.out; omega)).mono ?_
  rintro e w1 ⟨rfl, h1⟩
  have hlen := enc_len10 (n := n) (by have := HM.out; omega)
  have HL := hid hlen; clear hlen
  have HP := hid h1
  obtain ⟨⟨v1, g1, g2, g3, g4, g5⟩, gk⟩ := h1
  have G3 := hid g3; have GK := hid gk; clear g3 gk g4
  have hsrc : Sl K w1 (.slice a n cap) (u8s b) := hv0.out.keep GK.out (fun k hk hh => by have := HK.out k hk hh; rintro (h | h); exact this.1 h; exact this.2 h)
  have HS := hid hsrc; clear hsrc
  go_wp2_with (at_builtin; refine wpList_append_row rfl _ _ 22 rfl 5 i0 (.int .u8 0) 1 1 Tryd.underlying22 hi hz0 hz1 hz2 rfl (by decide) _ K _ _ _ _ rfl G3.out n _ rfl (sl_row HS.out (by simp [HBL.out])) (u8s_one _) ?h1 ?h2 ?_)
  case h1 => have := HL.out; have := HM.out; simp [maxLen]; omega
  case h2 => have := HL.out; have := HM.out; simp; omega
  intro a1 cap1 w2 hown' hgrow; try intro _
  have hbs := buf_store (ys := xs ++ encB b) HB.out.choose_spec.2.2.2.1 HB.out.choose_spec.2.2.2.2 GK.out (hgrow.mono (fun i _ hs => hs)) (by simpa [encB, HBL.out, u8s_append, Nat.add_assoc] using hown') (fun b hb => by
        rcases hb with hb | hb
        · exact hb
        · exact .inr (Nat.le_trans GK.out.size hb)) g1 g2
  have hc2 : ∃ q, w2.cell? ⟨p, 0, none⟩ = some q := buf_cell HB.out.choose_spec.2.2.2.1 HB.out.choose_spec.2.2.2.2 GK.out (hgrow.mono (fun i _ hs => hs)) g1
  have hf2 : w2.frozen? ⟨p, 0, none⟩ = false := buf_free HB.out.choose_spec.2.2.2.1 HB.out.choose_spec.2.2.2.2 GK.out (hgrow.mono (fun i _ hs => hs)) g2
  obtain ⟨q, hc2⟩ := hc2
  clear hown' hgrow
  have HE := hid hbs; clear hbs
  go_wp2
  go_end0
  refine ⟨rfl, ?_⟩
  unfold BufPost; simpa [encB, HBL.out, Nat.add_assoc] using HE.out

set_option maxRecDepth 100000 in
set_option maxHeartbeats 400000 in
theorem WInts_any (S K : Nat → Prop) (p : Nat) (xs : List Nat) (v : Value) (l : List Int) (w : World) (hb : Buf S w p xs) (hv : Sl K w v (i64s l)) (hK : ∀ k, k < w.heap.size → K k → ¬ S k ∧ k ≠ p) (hm : xs.length + 10 + 10 * l.length ≤ 1000000000000)
    (hr : ∀ n ∈ l, -9223372036854775808 ≤ n ∧ n ≤ 9223372036854775807) :
    Calls Tryd.prog 51 #[.pointer (some ⟨p, 0, none⟩), v] w fun e w' => e = .returned (.tuple #[]) ∧ BufPost S w p (xs ++ encL l) w' := by
  have hv0 := hid hv
  obtain ⟨a, cap, rfl, hc1, hc2, hv1⟩ := hv.ints
  have HB := hid hb; have HM := hid hm; have HK := hid hK; have HR := hid hr; have HV := hid hv1; clear hb hm hK hv hr hv1
  generalize hbl : l.length = n at *
  have HBL := hid hbl; clear hbl
  have hn : n ≤ 100000000000 := by have := HM.out; omega
  go_enter Tryd.func51, Tryd.ntmps51
  go_wp2_with fail
  refine (put_any S p xs n _ HB.out (by have := HM.out; omega) (by have := HM.out; omega)).mono ?_
  rintro e w1 ⟨rfl, h1⟩
  have hlen := enc_len10 (n := n) (by have := HM.out; omega)
  have HL := hid hlen; clear hlen
  have HP := hid h1; clear h1
  go_wp2
  go_loopw [15] (fun i wr => ∃ (k : Nat), k ≤ n ∧ i = .int .i64 k ∧ Hd (BufPost S w p (xs ++ enc n ++ (l.take k).flatMap encI) wr)) (fun i _ => n - (intOf i).toNat)
  case atStart => exact ⟨0, by omega, rfl, by simpa using HP⟩
  case round =>
    obtain ⟨k, hk, rfl, hpost⟩ := hrel
    by_cases hlt : k < n
    · obtain ⟨b1, o1, rfl, hKb, hb1, d1⟩ := HV.out (by omega)
      have e1 : wr.cell? ⟨b1, o1 + k, none⟩ = some (.int .i64 (l.getD k 0)) := by
        rw [hpost.out.2.cell (p := ⟨b1, o1 + k, none⟩) hb1 (by have := HK.out b1 hb1 hKb; rintro (h | h); exact this.1 h; exact this.2 h)]
        exact d1 k hlt
      clear d1 hb1 hKb
      have hk0 : (0 : Int) ≤ (k : Int) := by omega
      have hk1 : (k : Int) < n := by omega
      have hmem : l.getD k 0 ∈ l := by simp [List.getD, HBL.out, hlt]
      have hstep : (l.take k).flatMap encI ++ encI (l.getD k 0) = (l.take (k + 1)).flatMap encI := by
        rw [List.take_succ_eq_append_getElem (by rw [HBL.out]; exact hlt), List.flatMap_append, List.flatMap_singleton]
        simp [List.getD, HBL.out, hlt]
      have hle : (xs ++ enc n ++ (l.take k).flatMap encI).length ≤ 1000000000000 := by
        have h1 := flatMap_len (l.take k) (fun x hx => HR.out x (List.mem_of_mem_take hx))
        have h2 := HL.out
        have h3 := HM.out
        have h4 : (l.take k).length ≤ k := List.length_take_le _ _
        simp only [List.length_append] at *
        omega
      generalize hx : l.getD k 0 = x at *
      have HX := hid hx; clear hx
      have HM1 := hid hmem; have HS := hid hstep; have HLE := hid hle; clear hmem hstep hle
      go_wp2_with (go_at_call 64; refine (WInt_any (fun k => S k ∨ w.heap.size ≤ k) p _ x _ hpost.out.1 (HR.out x HM1.out).1 (HR.out x HM1.out).2 HLE.out).mono ?_; rintro e w3 ⟨rfl, h3⟩)
      go_roundw
      case rel => exact ⟨k + 1, by omega, by go_num, hid (by rw [← HS.out, ← List.append_assoc]; exact hpost.out.trans h3)⟩
      case measure => simp [intOf]; omega
    · obtain rfl : k = n := by omega
      go_wp2
      go_end0
      refine ⟨rfl, ?_⟩
      have := hpost.out
      rw [List.take_of_length_le (by rw [HBL.out]; exact Nat.le_refl _)] at this
      rw [encL, HBL.out, ← List.append_assoc]; exact this

/-- the result is a new row that holds the same -/
def NewRet (w : World) (e : TypeId) (xs : List Value) (r : Ending) (w' : World) : Prop := ∃ a n c, r = .returned (.slice a n c) ∧ n = xs.length ∧ Own (fun k => w.heap.size ≤ k) w' e 1 (.slice a n c) n xs ∧ Keeps (fun _ => False) w w'

set_option maxRecDepth 100000 in
set_option maxHeartbeats 400000 in
theorem CloneB_any (K : Nat → Prop) (v : Value) (b : List Nat) (w : World) (hv : Sl K w v (u8s b)) (hm : b.length ≤ 140737488351232) :
    Calls Tryd.prog 45 #[v] w fun e w' => NewRet w 5 (u8s b) e w' := by
  obtain ⟨i0, hi, hz0, hz1, hz2⟩ := info_parts infoU8
  have hv0 := hid hv
  have HM := hid hm; clear hm
  have hq : ∀ (w : World) (a : Option Addr) (n c n' c' : Nat), (binOp .eql 22 (.slice a n c) (.slice none n' c')).run Tryd.prog w = .ok (.bool a.isNone) w := fun w a n c n' c' => Lib.run_eql_slice_nil w _ _ a n c n' c' Tryd.underlying22
  rcases hv.bcases with ⟨rfl, rfl⟩ | ⟨bb, cap, rfl⟩
  · clear hv hv0
    go_enter Tryd.func45, Tryd.ntmps45
    go_wp2
    go_ret
    exact ⟨none, 0, 0, rfl, rfl, Own.nil _ _ _ _, Keeps.refl _ _⟩
  · clear hv
    have HS : Hd (Sl K (w.alloc (.cells #[] 5)) (.slice (some bb) b.length cap) (u8s b)) := hid (hv0.out.keep (keeps_alloc (fun _ => False) w (.cells #[] 5)) (fun _ _ _ h => h))
    generalize hbl : b.length = n at *
    have HBL := hid hbl; clear hbl
    have HO : Hd (Own (fun k => w.heap.size ≤ k) (w.alloc (.cells #[] 5)) 5 1 (.slice (some ⟨w.heap.size, 0, none⟩) 0 0) 0 []) :=
      hid ⟨World.ownsRow_lit w #[] 0 (Nat.zero_le _) (Nat.zero_le _) rfl, fun k hk => by injection hk with hk; simp at hk; omega⟩
    go_enter Tryd.func45, Tryd.ntmps45
    go_wp2_with (at_builtin; refine wpList_append_row rfl _ _ 22 rfl 5 i0 (.int .u8 0) 1 1 Tryd.underlying22 hi hz0 hz1 hz2 rfl (by decide) _ K _ _ _ _ rfl HO.out n _ rfl (sl_row HS.out (by simp [HBL.out])) (u8s_one _) ?h1 ?h2 ?_)
    case h1 => have := HM.out; simp [maxLen]; omega
    case h2 => have := HM.out; omega
    intro a1 cap1 w2 hown' hgrow; try intro _
    try simp only [Nat.zero_add, List.nil_append] at hown'
    have H1 := hid hown'; have H2 := hid hgrow; clear hown' hgrow
    go_wp2
    go_ret
    refine ⟨a1, n, cap1, by simp, by simp [HBL.out], ?_, ?_⟩
    · have h1 := H1.out.mono (K' := fun k => w.heap.size ≤ k) (fun b hb hh => by
        rcases hh with hh | hh
        · exact hh
        · omega)
      simpa [HBL.out] using h1
    · exact ((keeps_alloc _ w _).trans' H2.out (fun i hi hs => by omega))
theorem own_at {S S' : Nat → Prop} {w w' : World} {e : TypeId} {size : Nat} {v : Value} {n : Nat} {xs : List Value} (h : Own S w e size v n xs) (hS : ∀ b, S b → S' b) (hw : w'.heap = w.heap) : Own S' w' e size v n xs := by
  obtain ⟨⟨h0, h1⟩, h2⟩ := h
  exact ⟨⟨h0, by rw [hw]; exact h1⟩, fun k hk => hS k (h2 k hk)⟩

set_option maxRecDepth 100000 in
set_option maxHeartbeats 400000 in
theorem WDone_any (S : Nat → Prop) (p : Nat) (xs : List Nat) (w : World) (hb : Buf S w p xs) (hm : xs.length ≤ 140737488351232) :
    Calls Tryd.prog 54 #[.pointer (some ⟨p, 0, none⟩)] w fun e w' => NewRet w 5 (u8s xs) e w' := by
  obtain ⟨v, h1, h2, h3, h4, h5⟩ := hb
  have H3 := hid h3; have HM := hid hm; clear h3 hm
  obtain ⟨a, cap, rfl, _⟩ := H3.out.row.form
  go_enter Tryd.func54, Tryd.ntmps54
  go_wp2_with (go_at_call 45; refine (CloneB_any S _ xs _ (by have := H3.out.row; unfold Sl; rw [u8s_length]; exact this) HM.out).mono ?_; rintro e w1 ⟨a1, n1, c1, rfl, h6⟩; replace h6 := hid h6)
  go_ret
  exact ⟨a1, n1, c1, rfl, h6.out⟩

/-- a reader: the error, and (where there is none) the bytes that are left; its bytes lie in blocks of K -/
def Rd (K : Nat → Prop) (w : World) (p : Nat) (s : St) : Prop :=
  ∃ bv bs at_, w.cell? ⟨p, 0, none⟩ = some bv ∧ w.cell? ⟨p, 1, none⟩ = some (.int .i64 (at_ : Nat)) ∧ w.cell? ⟨p, 2, none⟩ = some (.int .i64 s.1) ∧ w.frozen? ⟨p, 1, none⟩ = false ∧ w.frozen? ⟨p, 2, none⟩ = false ∧
    Sl K w bv (u8s bs) ∧ ¬ K p ∧ p < w.heap.size ∧ at_ ≤ bs.length ∧ bs.length ≤ 140737488351232 ∧ (∀ c ∈ bs, c < 256) ∧ (s.1 = 0 → s.2 = bs.drop at_)
theorem Rd.keep {K S : Nat → Prop} {w w' : World} {p : Nat} {s : St} (h : Rd K w p s) (hk : Keeps S w w') (hp : ¬ S p) (hd : ∀ b, b < w.heap.size → K b → ¬ S b) : Rd K w' p s := by
  obtain ⟨bv, bs, at_, h1, h2, h3, h4, h5, h6, h7, h8, h9⟩ := h
  exact ⟨bv, bs, at_, (hk.cell (p := ⟨p, 0, none⟩) h8 hp).trans h1, (hk.cell (p := ⟨p, 1, none⟩) h8 hp).trans h2, (hk.cell (p := ⟨p, 2, none⟩) h8 hp).trans h3, (hk.frozen (p := ⟨p, 1, none⟩) h8 hp).trans h4,
    (hk.frozen (p := ⟨p, 2, none⟩) h8 hp).trans h5, h6.keep hk hd, h7, Nat.lt_of_lt_of_le h8 hk.size, h9⟩
/-- what a call that makes a reader leaves -/
def RdNew (w : World) (l : List Nat) (r : Ending) (w' : World) : Prop := ∃ p, r = .returned (.pointer (some ⟨p, 0, none⟩)) ∧ Rd (fun k => w.heap.size ≤ k ∧ k < p) w' p (0, l) ∧ w.heap.size ≤ p ∧ Keeps (fun _ => False) w w'

set_option maxRecDepth 100000 in
set_option maxHeartbeats 400000 in
theorem NewReader_any (K : Nat → Prop) (v : Value) (b : List Nat) (w : World) (hv : Sl K w v (u8s b)) (hm : b.length ≤ 140737488351232) (hb : ∀ c ∈ b, c < 256) :
    Calls Tryd.prog 56 #[v] w fun e w' => RdNew w b e w' := by
  have hv0 := hid hv
  have HM := hid hm; have HB := hid hb; clear hm hb
  obtain ⟨a, cap, rfl, _⟩ := hv.bytes
  clear hv
  go_enter Tryd.func56, Tryd.ntmps56
  go_wp2_with (go_at_call 45; refine (CloneB_any K _ b _ hv0.out HM.out).mono ?_; rintro e w1 ⟨a1, n1, c1, rfl, h6⟩; replace h6 := hid h6)
  go_ret
  have hk := h6.out.2.2
  refine ⟨w1.heap.size, rfl, ?_, hk.size, hk.alloc _⟩
  refine ⟨.slice a1 n1 c1, b, 0, by simp, by simp, by simp, by simp, by simp, ?_, by simp, by simp, Nat.zero_le _, HM.out, HB.out, fun _ => rfl⟩
  have h7 := h6.out.2.1.row
  have h8 : Sl (fun k => w.heap.size ≤ k) w1 (.slice a1 n1 c1) (u8s b) := by unfold Sl; rw [← h6.out.1]; exact h7
  exact (h8.mono (K' := fun k => w.heap.size ≤ k ∧ k < w1.heap.size) (fun b hb h => ⟨h, hb⟩)).keep (keeps_alloc (fun _ => False) w1 _) (fun _ _ _ h => h)
end Go.Proofs.YtgeicbjlichdgaaDoor.Wi
