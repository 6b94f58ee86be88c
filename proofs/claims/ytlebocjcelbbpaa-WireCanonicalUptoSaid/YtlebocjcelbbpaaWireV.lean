/- The walk of the wire laws' 'lives'. -/
import Derived.Test.YtlebocjcelbbpaaWireE
import Derived.Test.YtlebocjcelbbpaaSame
namespace Go.Proofs.Ytlebocjcelbbpaa
open Go.RowKit

/-- the buffer of a Writer that lies in block p; what it owns lies behind it -/
def BufAt (w : World) (p : Nat) (xs : List Nat) : Prop := Buf (fun k => p < k) w p xs
theorem BufAt.lt {w : World} {p : Nat} {xs : List Nat} (h : BufAt w p xs) : p < w.heap.size := h.choose_spec.2.2.2.2
theorem BufAt.keep {S : Nat → Prop} {w w' : World} {p : Nat} {xs : List Nat} (h : BufAt w p xs) (hk : Keeps S w w') (hd : ∀ b, b < w.heap.size → p ≤ b → ¬ S b) : BufAt w' p xs := Buf.keep h hk (hd p h.lt (Nat.le_refl _)) (fun b hb hs => hd b hb (Nat.le_of_lt hs))
theorem BufAt.post {S : Nat → Prop} {w w' : World} {p : Nat} {xs ys : List Nat} (h0 : Buf S w p ys) (hS : ∀ b, S b → p < b) (h : BufPost S w p xs w') : BufAt w' p xs ∧ Keeps (fun k => p ≤ k) w w' := by
  have hp := h0.choose_spec.2.2.2.2
  obtain ⟨⟨v, h1, h2, h3, h4, h5⟩, h6⟩ := h
  exact ⟨⟨v, h1, h2, h3.mono (fun b _ hb => by rcases hb with hb | hb; exact hS b hb; omega), by omega, h5⟩, h6.mono (fun i _ hi => by rcases hi with hi | hi; exact Nat.le_of_lt (hS i hi); omega)⟩
theorem BufAt.tight {w : World} {p : Nat} {xs : List Nat} (h : BufAt w p xs) : Buf (fun k => p < k ∧ k < w.heap.size) w p xs := by
  obtain ⟨v, h1, h2, h3, h4, h5⟩ := h
  exact ⟨v, h1, h2, h3.mono (fun b hb h => ⟨h, hb⟩), by omega, h5⟩
theorem BufAt.new (w : World) (T : TypeId) : BufAt (w.alloc (.cells #[.slice none 0 0] T)) w.heap.size [] :=
  ⟨.slice none 0 0, by simp, by simp, Own.nil _ _ _ _, by omega, by simp⟩
theorem sl_lit (w : World) (l : List Nat) (hl : l.length ≤ 1000) : Sl (fun k => k = w.heap.size) (w.alloc (.cells (u8s l).toArray 5)) (.slice (some ⟨w.heap.size, 0, none⟩) l.length l.length) (u8s l) := by
  refine ⟨by simp, .inr ⟨⟨w.heap.size, 0, none⟩, l.length, by simp, by simp, by simp [maxLen]; omega, fun _ => ⟨w.heap.size, 0, rfl, rfl, by simp, fun j hj => ?_⟩⟩⟩
  simp at hj
  simp [List.getD, hj]
theorem Rd.lt {K : Nat → Prop} {w : World} {p : Nat} {s : St} (h : Rd K w p s) : p < w.heap.size := by
  obtain ⟨bv, bs, at_, h1, h2, h3, h4, h5, h6, h7, h8, h9⟩ := h
  exact h8

set_option maxRecDepth 100000 in set_option maxHeartbeats 1000000 in
theorem lives_any (w : World) : Calls Try.prog 21 #[] w fun e w' => e = .returned (.bool true) ∧ Keeps (fun _ => False) w w' := by
  go_enter Try.func21, Try.ntmps21
  have W0 := BufAt.new w 66
  go_wp2_with fail
  refine (WUint_any _ _ [] 300 _ W0 (by omega) (by simp)).mono ?_
  rintro e w1 ⟨rfl, h1⟩
  obtain ⟨W1, k1⟩ := BufAt.post W0 (fun _ h => h) h1
  have K1 := (((Keeps.refl (fun _ => False) w).alloc _).after k1)
  replace W1 := hid W1; replace K1 := hid K1; clear W0 h1 k1
  go_wp2_with fail
  refine (WInt_any _ _ _ (-3) _ W1.out (by omega) (by omega) (by simp [enc])).mono ?_
  rintro e w2 ⟨rfl, h1⟩
  obtain ⟨W2, k1⟩ := BufAt.post W1.out (fun _ h => h) h1
  have K2 := hid (K1.out.after k1); replace W2 := hid W2; clear h1 k1 W1 K1
  go_wp2_with fail
  have z2 := W2.out.lt
  have W2' := W2.out.tight.keep (keeps_alloc (fun _ => False) w2 (.cells #[.int .u8 7, .int .u8 8] 5)) (fun h => h) (fun _ _ _ h => h)
  refine (WBytes_any _ (fun k => k = w2.heap.size) _ _ _ [7, 8] _ W2' (sl_lit w2 [7, 8] (by simp)) (fun k _ h => by omega) (by simp [enc, encI, zig])).mono ?_
  rintro e w3 ⟨rfl, h1⟩
  obtain ⟨W3, k1⟩ := BufAt.post W2' (fun _ h => h.1) h1
  have K3 := hid ((K2.out.alloc _).after (k1.mono (fun i _ h => h))); have z3 : w.heap.size < w3.heap.size := W3.lt; replace W3 := hid W3.tight; clear h1 k1 W2 K2 W2' z2
  go_wp2_with fail
  refine (NewReader_any _ _ [172, 2] _ (sl_lit w3 [172, 2] (by simp)) (by simp) (by simp)).mono ?_
  rintro e w4 ⟨pa, rfl, h1, h2, h3⟩
  simp only [World.size_alloc] at h1
  have k4 := (keeps_alloc (fun _ => False) w3 _).trans h3
  have K4 := hid (K3.out.trans k4); have W4 := hid (W3.out.keep k4 (fun h => h) (fun _ _ _ h => h)); have A4 := hid h1
  have za : pa < w4.heap.size := h1.lt
  simp at h2
  clear h1 h3 k4 K3 W3
  go_wp2_with fail
  refine (NewReader_any _ _ [128, 0] _ (sl_lit w4 [128, 0] (by simp)) (by simp) (by simp)).mono ?_
  rintro e w5 ⟨pb, rfl, h1, h3, h4⟩
  simp only [World.size_alloc] at h1
  have k5 := (keeps_alloc (fun _ => False) w4 _).trans h4
  have K5 := hid (K4.out.trans k5); have W5 := hid (W4.out.keep k5 (fun h => h) (fun _ _ _ h => h)); have A5 := hid (A4.out.keep k5 (fun h => h) (fun _ _ _ h => h)); have B5 := hid h1
  have zb : pb < w5.heap.size := h1.lt
  simp at h3
  clear h1 h4 k5 K4 W4 A4
  go_wp2_with fail
  refine (NewReader_any _ _ [2, 7, 8] _ (sl_lit w5 [2, 7, 8] (by simp)) (by simp) (by simp)).mono ?_
  rintro e w6 ⟨pc, rfl, h1, h4, h5⟩
  simp only [World.size_alloc] at h1
  have k6 := (keeps_alloc (fun _ => False) w5 _).trans h5
  have K6 := hid (K5.out.trans k6); have W6 := hid (W5.out.keep k6 (fun h => h) (fun _ _ _ h => h)); have A6 := hid (A5.out.keep k6 (fun h => h) (fun _ _ _ h => h)); have B6 := hid (B5.out.keep k6 (fun h => h) (fun _ _ _ h => h)); have C6 := hid h1
  have zc : pc < w6.heap.size := h1.lt
  simp at h4
  clear h1 h5 k6 K5 W5 A5 B5
  have q1 : sU (0, [172, 2]) = ((0, []), 300) := by simp [sU, rdU]
  have q2 : sU (0, [128, 0]) = ((7, []), 0) := by simp [sU, rdU]
  have q3 : sB 1 (0, [2, 7, 8]) = ((2, [7, 8]), []) := by simp [sB, sSize, sU, rdU]
  have q4 : [] ++ enc 300 ++ encI (-3) ++ encB [7, 8] = [172, 2, 5, 2, 7, 8] := by simp [enc, encI, zig, encB]
  have Q1 := hid q1; have Q2 := hid q2; have Q3 := hid q3; have Q4 := hid q4; clear q1 q2 q3 q4
  go_wp2_with fail
  refine (RUint_any _ pa (0, [172, 2]) _ A6.out).mono ?_
  rintro e w7 ⟨rfl, h1, h5⟩
  rw [Q1.out] at h1
  rw [Q1.out]
  have A7 := hid h1; have W7 := hid (W6.out.keep h5 (by omega) (fun b _ h => by omega)); have B7 := hid (B6.out.keep h5 (by omega) (fun b _ h => by omega)); have C7 := hid (C6.out.keep h5 (by omega) (fun b _ h => by omega))
  have K7 := hid (K6.out.after (h5.mono (fun i _ h => by omega)))
  have z7 := h5.size
  clear h1 h5 K6 W6 A6 B6 C6
  go_wp2_with fail
  refine (RUint_any _ pb (0, [128, 0]) _ B7.out).mono ?_
  rintro e w8 ⟨rfl, h1, h5⟩
  rw [Q2.out] at h1
  have B8 := hid h1; have W8 := hid (W7.out.keep h5 (by omega) (fun b _ h => by omega)); have A8 := hid (A7.out.keep h5 (by omega) (fun b _ h => by omega)); have C8 := hid (C7.out.keep h5 (by omega) (fun b _ h => by omega))
  have K8 := hid (K7.out.after (h5.mono (fun i _ h => by omega)))
  have z8 := h5.size
  clear h1 h5 K7 W7 A7 B7 C7
  go_wp2_with fail
  refine (RBytes_any _ pc 1 (0, [2, 7, 8]) _ C8.out (by omega)).mono ?_
  rintro e w9 ⟨ax, nx, cx, rfl, _, _, h1, h5⟩
  rw [Q3.out] at h1
  have C9 := hid h1; have W9 := hid (W8.out.keep h5 (by omega) (fun b _ h => by omega)); have A9 := hid (A8.out.keep h5 (by omega) (fun b _ h => by omega)); have B9 := hid (B8.out.keep h5 (by omega) (fun b _ h => by omega))
  have K9 := hid (K8.out.after (h5.mono (fun i _ h => by omega)))
  clear h1 h5 K8 W8 A8 B8 C8
  rw [Q4.out] at W9
  have z9 : w.heap.size < w9.heap.size := W9.out.choose_spec.2.2.2.2
  go_wp2_with fail
  refine (WDone_any _ _ [172, 2, 5, 2, 7, 8] _ W9.out (by simp)).mono ?_
  rintro e wa ⟨ad, nd, cd, rfl, h1, h2, h3⟩
  have AA := hid (A9.out.keep h3 (fun h => h) (fun _ _ _ h => h)); have BA := hid (B9.out.keep h3 (fun h => h) (fun _ _ _ h => h)); have CA := hid (C9.out.keep h3 (fun h => h) (fun _ _ _ h => h))
  have KA := hid (K9.out.trans h3)
  have DA : Hd (Sl (fun k => w9.heap.size ≤ k) wa (.slice ad nd cd) (u8s [172, 2, 5, 2, 7, 8])) := hid (row_sl h2.row h1.symm)
  have zA := h3.size
  clear h1 h2 h3
  go_wp2_with fail
  refine (SameBytes_any _ _ _ _ [172, 2, 5, 2, 7, 8] [172, 2, 5, 2, 7, 8] _ (DA.out.keep (keeps_alloc (fun _ => False) _ _) (fun _ _ _ h => h)) (sl_lit wa [172, 2, 5, 2, 7, 8] (by simp)) (by simp)).mono ?_
  rintro e wb ⟨rfl, h1⟩
  have h2 : Keeps (fun _ => False) wa wb := by obtain ⟨m, rfl⟩ := h1; exact (keeps_alloc _ _ _).drewN _
  have AB := hid (AA.out.keep h2 (fun h => h) (fun _ _ _ h => h)); have BB := hid (BA.out.keep h2 (fun h => h) (fun _ _ _ h => h)); have CB := hid (CA.out.keep h2 (fun h => h) (fun _ _ _ h => h))
  have KB := hid (KA.out.trans h2)
  clear h1 h2
  go_wp2_with fail
  refine (REnd_any _ pa (0, []) _ AB.out).mono ?_
  rintro e wc ⟨rfl, h1⟩
  have BC := hid (BB.out.keep (drawn_keeps (fun _ => False) h1) (fun h => h) (fun _ _ _ h => h))
  have CC := hid (CB.out.keep (drawn_keeps (fun _ => False) h1) (fun h => h) (fun _ _ _ h => h))
  have KC := hid (KB.out.trans (drawn_keeps _ h1))
  have q5 : sEnd (0, []) = 0 := by simp [sEnd]
  clear h1
  rw [q5]
  go_wp2_with fail
  refine (RErr_any _ pb (7, []) _ BC.out).mono ?_
  rintro e wd ⟨rfl, rfl⟩
  go_wp2_with fail
  refine (RErr_any _ pc (2, [7, 8]) _ CC.out).mono ?_
  rintro e wd ⟨rfl, rfl⟩
  go_wp2
  go_ret
  exact ⟨rfl, KC.out⟩
end Go.Proofs.Ytlebocjcelbbpaa
