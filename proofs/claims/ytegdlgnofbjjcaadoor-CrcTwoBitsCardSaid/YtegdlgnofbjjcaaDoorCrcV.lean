/- The walk of the law CrcTwoBits. -/
import Derived.Test.YtegdlgnofbjjcaaDoorCrcU
import Derived.BigQuiet
import Derived.Deep.Cut
namespace Go.Proofs.YtegdlgnofbjjcaaDoor
open Go.RowKit
attribute [local go_sem ↓] Go.wp_at_zero Go.wp_at_succ
set_option maxRecDepth 100000 in set_option maxHeartbeats 1000000 in
theorem twobits_any (v : Value) (l : List Nat) (i k : Nat) (w : World) (hN : Nib w) (hv : Sl (fun b => b < w.heap.size) w v (u8s l)) (hl : ∀ c ∈ l, c < 256) (hi : i < 65536) (hk : k < 65536) :
    Calls Tryd.prog 9 #[v, .int .u16 i, .int .u16 k] w fun e w' => e = .returned (.bool true) ∧ Keeps (fun _ => False) w w' := by
  have HN := hid hN; have HV := hid hv; have HL := hid hl
  obtain ⟨a, cap, rfl, q1, q2, q3⟩ := hv.bytes
  clear hN hv hl q3
  unfold maxLen at q2
  by_cases hlong : (l.length : Int) > 1000
  · generalize l.length = n at *
    go_enter Tryd.func9, Tryd.ntmps9
    go_wp2_with fail
    refine (lives_any _ HN.out).mono ?_
    rintro e w6 ⟨rfl, hk6⟩
    have Q6 := hid hk6
    clear hk6
    go_wp2
    go_ret
    exact ⟨rfl, Q6.out⟩
  · obtain ⟨i', hi'⟩ : ∃ i', i' = i % (8 * (l.length + 4)) := ⟨_, rfl⟩
    obtain ⟨k', hk'⟩ : ∃ k', k' = k % (8 * (l.length + 4)) := ⟨_, rfl⟩
    have li : i' < 8 * (l.length + 4) := by rw [hi']; exact Nat.mod_lt _ (by omega)
    have lk : k' < 8 * (l.length + 4) := by rw [hk']; exact Nat.mod_lt _ (by omega)
    have T1 := hid (opened_one HL.out i' li)
    have T2 := hid (opened_two HL.out (by omega) i' k' li lk)
    have SL := hid (seal_lt HL.out)
    have ML := hid (seal_len l)
    generalize hll : l.length = n at *
    have HLL := hid hll; clear hll
    have ei : (i : Int) % (8 * ((n : Int) + 4)) = (i' : Int) := by rw [hi']; simp
    have ek : (k : Int) % (8 * ((n : Int) + 4)) = (k' : Int) := by rw [hk']; simp
    have HI := hid hi'; have HK := hid hk'
    clear hi' hk'
    go_enter Tryd.func9, Tryd.ntmps9
    go_wp2_with fail
    refine (Seal_any _ _ l _ HN.out HV.out HL.out (by rw [HLL.out]; omega)).mono ?_
    rintro e w1 ⟨a1, n1, c1, rfl, hn1, ho1, hk1⟩
    obtain rfl : n1 = n + 4 := by rw [hn1, u8s_length, ML.out]
    have S1 := hid (own_sl ho1 hn1)
    have Q1 := hid hk1
    clear hn1 ho1 hk1
    go_wp2_with fail
    refine (flip_any _ _ (seal_ l) i' _ S1.out SL.out (by rw [ML.out]; omega) (by rw [ML.out]; omega)).mono ?_
    rintro e w2 ⟨a2, n2, c2, rfl, hn2, ho2, hk2⟩
    have S2 := hid (own_sl ho2 hn2)
    replace Q1 : Hd (Keeps (fun _ => False) w w2) := hid (Q1.out.trans hk2)
    clear hn2 ho2 hk2
    go_wp2_with fail
    refine (Open_any _ _ _ _ (HN.out.keep Q1.out (fun h => h)) S2.out (flipped_lt SL.out _) (by rw [flipped_len, ML.out]; omega)).mono ?_
    rintro e w3 ⟨a3, n3, c3, rfl, hn3, ho3, hk3⟩
    rw [T1.out]
    have S3 := hid (S2.out.keep hk3 (fun _ _ _ h => h))
    replace Q1 : Hd (Keeps (fun _ => False) w w3) := hid (Q1.out.trans hk3)
    clear hn3 ho3 hk3
    go_wp2_with fail
    refine (flip_any _ _ (flipped (seal_ l) i') k' _ S3.out (flipped_lt SL.out _) (by rw [flipped_len, ML.out]; omega) (by rw [flipped_len, ML.out]; omega)).mono ?_
    rintro e w4 ⟨a4, n4, c4, rfl, hn4, ho4, hk4⟩
    have S4 := hid (own_sl ho4 hn4)
    replace Q1 : Hd (Keeps (fun _ => False) w w4) := hid (Q1.out.trans hk4)
    clear hn4 ho4 hk4
    go_wp2_with fail
    refine (Open_any _ _ _ _ (HN.out.keep Q1.out (fun h => h)) S4.out (flipped_lt (flipped_lt SL.out _) _) (by rw [flipped_len, flipped_len, ML.out]; omega)).mono ?_
    rintro e w5 ⟨a5, n5, c5, rfl, hn5, ho5, hk5⟩
    rw [T2.out]
    replace Q1 : Hd (Keeps (fun _ => False) w w5) := hid (Q1.out.trans hk5)
    clear hn5 ho5 hk5
    by_cases heq : i' = k'
    · rw [if_pos heq]
      have hik : ((i' : Int) == (k' : Int)) = true := by rw [heq]; simp
      clear heq
      go_upto_region 13 with fail
      go_quiet (fail)
      go_wp2_with fail
      refine (lives_any _ (HN.out.keep (Keeps.drewN Q1.out _) (fun h => h))).mono ?_
      rintro e w6 ⟨rfl, hk6⟩
      have Q6 := hid ((Keeps.drewN Q1.out _).trans hk6)
      clear hk6
      go_wp2
      go_ret
      exact ⟨rfl, Q6.out⟩
    · rw [if_neg heq]
      have hik : ((i' : Int) == (k' : Int)) = false := by simp; omega
      clear heq
      go_upto_region 13 with fail
      go_quiet (fail)
      go_wp2_with fail
      refine (lives_any _ (HN.out.keep (Keeps.drewN Q1.out _) (fun h => h))).mono ?_
      rintro e w6 ⟨rfl, hk6⟩
      have Q6 := hid ((Keeps.drewN Q1.out _).trans hk6)
      clear hk6
      go_wp2
      go_ret
      exact ⟨rfl, Q6.out⟩
end Go.Proofs.YtegdlgnofbjjcaaDoor
