/- The walk of the law CrcBursts. -/
import Derived.Test.YtegdlgnofbjjcaaDoorCrcU
namespace Go.Proofs.YtegdlgnofbjjcaaDoor
open Go.RowKit
attribute [local go_sem ↓] Go.wp_at_zero Go.wp_at_succ
theorem bit_tmod (p k : Nat) : ((p : Int) / 2 ^ k).tmod 2 = ((p / 2 ^ k % 2 : Nat) : Int) := by
  rw [show ((p : Int) / 2 ^ k) = ((p / 2 ^ k : Nat) : Int) by simp]
  rfl
set_option maxRecDepth 100000 in set_option maxHeartbeats 1000000 in
theorem bursts_any (v : Value) (l : List Nat) (i p : Nat) (w : World) (hN : Nib w) (hv : Sl (fun b => b < w.heap.size) w v (u8s l)) (hl : ∀ c ∈ l, c < 256) (hi : i < 65536) (hp : p < 4294967296) :
    Calls Tryd.prog 8 #[v, .int .u16 i, .int .u32 p] w fun e w' => e = .returned (.bool true) ∧ Keeps (fun _ => False) w w' := by
  have HN := hid hN; have HV := hid hv; have HL := hid hl; have HP := hid hp
  obtain ⟨a, cap, rfl, q1, q2, q3⟩ := hv.bytes
  clear hN hv hl q3
  unfold maxLen at q2
  by_cases hlong : (l.length : Int) > 1000
  · generalize l.length = n at *
    go_enter Tryd.func8, Tryd.ntmps8
    go_wp2_with fail
    refine (lives_any _ HN.out).mono ?_
    rintro e w6 ⟨rfl, hk6⟩
    have Q6 := hid hk6
    clear hk6
    go_wp2
    go_ret
    exact ⟨rfl, Q6.out⟩
  · obtain ⟨i', hi'⟩ : ∃ i', i' = i % (8 * (l.length + 4)) := ⟨_, rfl⟩
    have li : i' < 8 * (l.length + 4) := by rw [hi']; exact Nat.mod_lt _ (by omega)
    have T1 : Hd (∀ (x : List Nat) (q : Nat), (∀ c ∈ x, c < 256) → x.length = l.length + 4 → q < 2 ^ 32 → num x = num (seal_ l) ^^^ q * 2 ^ i' → (opened x).2 = if q = 0 then 0 else 8) :=
      hid (fun x q hx hlen hq hn => opened_burst HL.out hx hlen i' q hq (by omega) hn)
    have SL := hid (seal_lt HL.out)
    have ML := hid (seal_len l)
    generalize hll : l.length = n at *
    have HLL := hid hll; clear hll
    have ei : (i : Int) % (8 * ((n : Int) + 4)) = (i' : Int) := by rw [hi']; simp
    have HI := hid hi'
    clear hi'
    go_enter Tryd.func8, Tryd.ntmps8
    go_wp2_with fail
    refine (Seal_any _ _ l _ HN.out HV.out HL.out (by rw [HLL.out]; omega)).mono ?_
    rintro e w1 ⟨a1, n1, c1, rfl, hn1, ho1, hk1⟩
    obtain rfl : n1 = n + 4 := by rw [hn1, u8s_length, ML.out]
    have S1 : Hd (Sl (fun _ => True) w1 (.slice a1 (n + 4) c1) (u8s (seal_ l))) := hid ((own_sl ho1 hn1).mono (fun _ _ _ => trivial))
    have Q1 := hid hk1
    clear hn1 ho1 hk1
    go_wp2_with fail
    simp only [ei]
    go_loopw [7, 10, 11] (fun s ch j wr => ∃ (k : Nat) (a : Option Addr) (c : Nat) (x : List Nat), j = .int .i64 k ∧ s = .slice a (n + 4) c ∧ ch = .bool (!decide (p % 2 ^ k = 0)) ∧ k ≤ 32 ∧ i' + k ≤ 8 * (n + 4)
      ∧ Hd (Sl (fun _ => True) wr (.slice a (n + 4) c) (u8s x)) ∧ Hd (∀ c ∈ x, c < 256) ∧ Hd (x.length = n + 4) ∧ Hd (num x = num (seal_ l) ^^^ (p % 2 ^ k) * 2 ^ i') ∧ Hd (Keeps (fun _ => False) w wr)) (fun _ _ j _ => 32 - (intOf j).toNat)
    case atStart => exact ⟨0, a1, c1, seal_ l, rfl, rfl, by simp [Nat.mod_one], by omega, by omega, S1, SL, hid (by rw [ML.out]), hid (by simp [Nat.mod_one]), Q1⟩
    case round =>
      clear S1 Q1
      obtain ⟨k, a2, c2, x, rfl, rfl, rfl, hk, hik, S2, X2, L2, M2, Q2⟩ := hrel
      have sQ := Q2.out.size
      by_cases hgo : k < 32 ∧ i' + k < 8 * (n + 4)
      · obtain ⟨hk2, hik2⟩ := hgo
        by_cases hb : p / 2 ^ k % 2 = 1
        · have hbi : (((p : Int) / 2 ^ k).tmod 2 == 1) = true := by rw [bit_tmod, hb]; rfl
          have HB := hid hb
          clear hb
          go_wp2_with fail
          refine (flip_any _ _ x (i' + k) _ S2.out X2.out (by rw [L2.out]; omega) (by rw [L2.out]; omega)).mono ?_
          rintro e w2 ⟨a3, n3, c3, rfl, hn3, ho3, hk3⟩
          obtain rfl : n3 = n + 4 := by rw [hn3, u8s_length, flipped_len, L2.out]
          have S3 : Hd (Sl (fun _ => True) w2 (.slice a3 (n + 4) c3) (u8s (flipped x (i' + k)))) := hid ((own_sl ho3 hn3).mono (fun _ _ _ => trivial))
          have Q3 := hid (Q2.out.trans hk3)
          clear hn3 ho3 hk3
          go_wp2
          go_roundw
          case rel =>
            refine ⟨k + 1, a3, c3, flipped x (i' + k), by go_num, rfl, by rw [decide_eq_false (bit_pos p k HB.out)]; rfl, by omega, by omega, S3, hid (flipped_lt X2.out _), hid (by rw [flipped_len, L2.out]), hid ?_, Q3⟩
            rw [num_flipped _ _ (by rw [L2.out]; omega), M2.out, Nat.xor_assoc, bit_set p k i' HB.out]
          case measure => simp [intOf]; omega
        · have hbi : (((p : Int) / 2 ^ k).tmod 2 == 1) = false := by rw [bit_tmod, show p / 2 ^ k % 2 = 0 by omega]; rfl
          have HB := hid hb
          clear hb
          go_wp2
          go_roundw
          case rel =>
            exact ⟨k + 1, a2, c2, x, by go_num, rfl, by rw [bit_clear p k HB.out], by omega, by omega, S2, X2, L2, hid (by rw [M2.out, bit_clear p k HB.out]), Q2⟩
          case measure => simp [intOf]; omega
      · have TQ := hid (T1.out x (p % 2 ^ k) X2.out L2.out (Nat.lt_of_le_of_lt (Nat.mod_le _ _) HP.out) M2.out)
        have hgo2 : 32 ≤ k ∨ (k < 32 ∧ 8 * (n + 4) ≤ i' + k) := by omega
        clear hgo
        by_cases hq : p % 2 ^ k = 0
        · have hqd : decide (p % 2 ^ k = 0) = true := decide_eq_true hq
          have TQ2 : Hd ((opened x).2 = 0) := hid (by rw [TQ.out, if_pos hq])
          clear hq TQ
          rcases hgo2 with hg | ⟨hg, hg2⟩
          all_goals
            go_wp2_with fail
            refine (Open_any _ _ x _ (HN.out.keep Q2.out (fun h => h)) S2.out X2.out (by rw [L2.out]; omega)).mono ?_
            rintro e w3 ⟨a3, n3, c3, rfl, hn3, ho3, hk3⟩
            rw [TQ2.out]
            have Q3 := hid (Q2.out.trans hk3)
            clear hn3 ho3 hk3
            go_wp2_with fail
            refine (lives_any _ (HN.out.keep Q3.out (fun h => h))).mono ?_
            rintro e w6 ⟨rfl, hk6⟩
            have Q6 := hid (Q3.out.trans hk6)
            clear hk6
            go_wp2
            go_ret
            exact ⟨rfl, Q6.out⟩
        · have hqd : decide (p % 2 ^ k = 0) = false := decide_eq_false hq
          have TQ2 : Hd ((opened x).2 = 8) := hid (by rw [TQ.out, if_neg hq])
          clear hq TQ
          rcases hgo2 with hg | ⟨hg, hg2⟩
          all_goals
            go_wp2_with fail
            refine (Open_any _ _ x _ (HN.out.keep Q2.out (fun h => h)) S2.out X2.out (by rw [L2.out]; omega)).mono ?_
            rintro e w3 ⟨a3, n3, c3, rfl, hn3, ho3, hk3⟩
            rw [TQ2.out]
            have Q3 := hid (Q2.out.trans hk3)
            clear hn3 ho3 hk3
            go_wp2_with fail
            refine (lives_any _ (HN.out.keep Q3.out (fun h => h))).mono ?_
            rintro e w6 ⟨rfl, hk6⟩
            have Q6 := hid (Q3.out.trans hk6)
            clear hk6
            go_wp2
            go_ret
            exact ⟨rfl, Q6.out⟩
end Go.Proofs.YtegdlgnofbjjcaaDoor
