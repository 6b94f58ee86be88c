/- The walk of WirePrefix. -/
import Derived.Test.YtlebocjcelbbpaaWireP
namespace Go.Proofs.Ytlebocjcelbbpaa
open Go.RowKit

theorem enc_take {a b : Nat} (ha : a ≤ 18446744073709551615) (hb : b ≤ 18446744073709551615) (hl : (enc a).length ≤ (enc b).length) (h : enc a = (enc b).take (enc a).length) : a = b := by
  by_cases he : (enc a).length = (enc b).length
  · have h1 : enc a = enc b := by rw [he, List.take_length] at h; exact h
    have h2 := sU_enc [] ha
    have h3 := sU_enc [] hb
    rw [h1, h3] at h2
    exact (congrArg Prod.snd h2).symm
  · have h2 := rdU_enc [] a 0 0 (by omega) (by simp; omega) (by omega)
    have h3 := rdU_cut b 0 0 (enc a).length (by omega) (by simp; omega) (by omega)
    rw [← h] at h3
    rw [List.append_nil, h3] at h2
    simp at h2
theorem enc_apart {a b : Nat} (ha : a ≤ 18446744073709551615) (hb : b ≤ 18446744073709551615) (eq : Bool) (h : eq = true ↔ a = b) : apartB (enc a) (enc b) eq = true := by
  unfold apartB
  cases eq
  · have hne : a ≠ b := fun e => by simpa using h.2 e
    simp only [Bool.false_eq_true, if_false, Bool.not_eq_true', decide_eq_false_iff_not]
    intro ht
    by_cases hl : (enc a).length ≤ (enc b).length
    · rw [Nat.min_eq_left hl, List.take_length] at ht
      exact hne (enc_take ha hb hl ht)
    · rw [Nat.min_eq_right (by omega), List.take_length] at ht
      exact hne (enc_take hb ha (by omega) ht.symm).symm
  · have := h.1 rfl
    subst this
    simp
theorem its_lit (w : World) (x : It) (T : TypeId) (hb : x.b = []) (hl : x.l = []) :
    Its (fun b => b = w.heap.size) (w.alloc (.cells #[.int .i64 x.kind, .int .u64 (x.u : Nat), .int .i64 x.n, .slice none 0 0, .slice none 0 0, .int .i64 x.most] T)) (.slice (some ⟨w.heap.size, 0, none⟩) 1 1) [x] := by
  refine ⟨[.int .i64 x.kind, .int .u64 (x.u : Nat), .int .i64 x.n, .slice none 0 0, .slice none 0 0, .int .i64 x.most], ⟨rfl, .inr ⟨⟨w.heap.size, 0, none⟩, 1, rfl, Nat.le_refl _, by simp [maxLen], fun _ => ⟨w.heap.size, 0, rfl, rfl, by simp, fun j hj => ?_⟩⟩⟩, fun i hi => ?_⟩
  · simp only [List.length_cons, List.length_nil] at hj
    have : j = 0 ∨ j = 1 ∨ j = 2 ∨ j = 3 ∨ j = 4 ∨ j = 5 := by omega
    rcases this with rfl | rfl | rfl | rfl | rfl | rfl <;> simp
  · simp at hi
    subst hi
    exact ⟨rfl, rfl, rfl, by rw [show ([x] : List It)[0].b = [] from hb]; exact Sl.nil _ _, by rw [show ([x] : List It)[0].l = [] from hl]; exact Sl.nil _ _, rfl⟩

set_option maxRecDepth 100000 in set_option maxHeartbeats 1000000 in
theorem wirePrefix_any (a b : Nat) (m n : Int) (w : World) (ha : a ≤ 18446744073709551615) (hb : b ≤ 18446744073709551615) (hm : -9223372036854775808 ≤ m ∧ m ≤ 9223372036854775807) (hn : -9223372036854775808 ≤ n ∧ n ≤ 9223372036854775807) :
    Calls Try.prog 5 #[.int .u64 a, .int .u64 b, .int .i64 m, .int .i64 n] w fun e w' => e = .returned (.bool true) ∧ Keeps (fun _ => False) w w' := by
  have HA := hid ha; have HB := hid hb; have HM := hid hm; have HN := hid hn
  clear ha hb hm hn
  have okU : ∀ u : Nat, u ≤ 18446744073709551615 → ∀ x ∈ ([⟨0, u, 0, [], [], 0⟩] : List It), x.ok := fun u hu x hx => by simp at hx; subst hx; exact ⟨by simp, hu, by simp, by simp, by simp, by simp⟩
  have okN : ∀ k : Int, (-9223372036854775808 ≤ k ∧ k ≤ 9223372036854775807) → ∀ x ∈ ([⟨1, 0, k, [], [], 0⟩] : List It), x.ok := fun u hu x hx => by simp at hx; subst hx; exact ⟨by simp, by simp, hu, by simp, by simp, by simp⟩
  have OKU := hid okU; have OKN := hid okN; clear okU okN
  have EU : Hd (∀ u, encAll [⟨0, u, 0, [], [], 0⟩] = enc u) := hid (fun u => by simp [encAll, encIt])
  have EN : Hd (∀ k, encAll [⟨1, 0, k, [], [], 0⟩] = encI k) := hid (fun u => by simp [encAll, encIt])
  go_enter Try.func5, Try.ntmps5
  go_wp2_with fail
  refine (written_any _ _ [⟨0, a, 0, [], [], 0⟩] _ (its_lit w ⟨0, a, 0, [], [], 0⟩ _ rfl rfl) (fun b h => by simp; omega) (OKU.out a HA.out) (by simp [wts, It.wt])).mono ?_
  rintro e w1 ⟨a1, n1, c1, rfl, hn, ho, hk⟩
  have H1 : Hd (Sl (fun b => w.heap.size ≤ b) w1 (.slice a1 n1 c1) (u8s (enc a))) := hid (by rw [EU.out] at ho hn; exact (row_sl ho.row hn.symm).mono (fun b _ h => by simp at h; omega))
  have K1 := hid ((keeps_alloc (fun _ => False) w _).trans hk)
  clear hn ho hk
  go_wp2_with fail
  refine (written_any _ _ [⟨0, b, 0, [], [], 0⟩] _ (its_lit w1 ⟨0, b, 0, [], [], 0⟩ _ rfl rfl) (fun b h => by simp; omega) (OKU.out b HB.out) (by simp [wts, It.wt])).mono ?_
  rintro e w2 ⟨a2, n2, c2, rfl, hn, ho, hk⟩
  have k2 := (keeps_alloc (fun _ => False) w1 _).trans hk
  have H2 : Hd (Sl (fun b => w1.heap.size ≤ b) w2 (.slice a2 n2 c2) (u8s (enc b))) := hid (by rw [EU.out] at ho hn; exact (row_sl ho.row hn.symm).mono (fun b _ h => by simp at h; omega))
  have K2 := hid (K1.out.trans k2); have H1' := hid (H1.out.keep k2 (fun _ _ _ h => h))
  clear hn ho hk k2
  have hE1 := hid (fun eq => enc_apart HA.out HB.out eq)
  go_wp2_with fail
  refine (apart_any _ _ _ _ (enc a) (enc b) _ _ H1'.out H2.out (by have := enc_len10 HA.out; omega) (by have := enc_len10 HB.out; omega)).mono ?_
  rintro e w3 ⟨rfl, hk⟩
  rw [hE1.out _ (by simp; omega)]
  have K3 := hid (K2.out.trans hk); clear hk
  go_wp2_with fail
  refine (written_any _ _ [⟨1, 0, m, [], [], 0⟩] _ (its_lit w3 ⟨1, 0, m, [], [], 0⟩ _ rfl rfl) (fun b h => by simp; omega) (OKN.out m HM.out) (by simp [wts, It.wt])).mono ?_
  rintro e w4 ⟨a4, n4, c4, rfl, hn, ho, hk⟩
  have k4 := (keeps_alloc (fun _ => False) w3 _).trans hk
  have H4 : Hd (Sl (fun b => w3.heap.size ≤ b) w4 (.slice a4 n4 c4) (u8s (encI m))) := hid (by rw [EN.out] at ho hn; exact (row_sl ho.row hn.symm).mono (fun b _ h => by simp at h; omega))
  have K4 := hid (K3.out.trans k4)
  clear hn ho hk k4
  go_wp2_with fail
  refine (written_any _ _ [⟨1, 0, n, [], [], 0⟩] _ (its_lit w4 ⟨1, 0, n, [], [], 0⟩ _ rfl rfl) (fun b h => by simp; omega) (OKN.out n HN.out) (by simp [wts, It.wt])).mono ?_
  rintro e w5 ⟨a5, n5, c5, rfl, hn, ho, hk⟩
  have k5 := (keeps_alloc (fun _ => False) w4 _).trans hk
  have H5 : Hd (Sl (fun b => w4.heap.size ≤ b) w5 (.slice a5 n5 c5) (u8s (encI n))) := hid (by rw [EN.out] at ho hn; exact (row_sl ho.row hn.symm).mono (fun b _ h => by simp at h; omega))
  have K5 := hid (K4.out.trans k5); have H4' := hid (H4.out.keep k5 (fun _ _ _ h => h))
  clear hn ho hk k5
  have zm := hid (zig_le HM.out.1 HM.out.2); have zn := hid (zig_le HN.out.1 HN.out.2)
  have hE2 := hid (fun eq => enc_apart zm.out zn.out eq)
  go_wp2_with fail
  refine (apart_any _ _ _ _ (encI m) (encI n) _ _ H4'.out H5.out (by have := enc_len10 zm.out; unfold encI; omega) (by have := enc_len10 zn.out; unfold encI; omega)).mono ?_
  rintro e w6 ⟨rfl, hk⟩
  rw [show apartB (encI m) (encI n) _ = true from hE2.out _ ⟨fun h => by simp at h; rw [h], fun h => by have h2 := congrArg zag h; rw [zag_zig, zag_zig] at h2; simp [h2]⟩]
  have K6 := hid (K5.out.trans hk); clear hk
  go_wp2_with fail
  refine (lives_any _).mono ?_
  rintro e w7 ⟨rfl, hk⟩
  have K7 := hid (K6.out.trans hk); clear hk
  go_wp2
  go_ret
  exact ⟨rfl, K7.out⟩
end Go.Proofs.Ytlebocjcelbbpaa
