/- The walk of the law CrcResidue. -/
import Derived.Test.YtegdlgnofbjjcaaDoorCrcO
namespace Go.Proofs.YtegdlgnofbjjcaaDoor
open Go.RowKit
attribute [local go_sem ↓] Go.wp_at_zero Go.wp_at_succ
set_option maxRecDepth 100000 in set_option maxHeartbeats 1000000 in
theorem residue_any (v : Value) (l : List Nat) (w : World) (hN : Nib w) (hv : Sl (fun b => b < w.heap.size) w v (u8s l)) (hl : ∀ c ∈ l, c < 256) :
    Calls Tryd.prog 6 #[v] w fun e w' => e = .returned (.bool true) ∧ Keeps (fun _ => False) w w' := by
  have HN := hid hN; have HV := hid hv; have HL := hid hl
  obtain ⟨a, cap, rfl, q1, q2, q3⟩ := hv.bytes
  clear hN hv hl q3
  unfold maxLen at q2
  by_cases hlong : (l.length : Int) > 4096
  · generalize l.length = n at *
    go_enter Tryd.func6, Tryd.ntmps6
    go_wp2_with fail
    refine (lives_any _ HN.out).mono ?_
    rintro e w6 ⟨rfl, hk6⟩
    have Q6 := hid hk6
    clear hk6
    go_wp2
    go_ret
    exact ⟨rfl, Q6.out⟩
  · have HLE : Hd (l.length ≤ 4096) := hid (by omega)
    have HR : Hd (l.length < 4 ∧ (opened l).2 = 6 ∨ ¬ l.length < 4 ∧ ((opened l).2 = 0 ∧ crc l = 558161692 ∨ (opened l).2 = 8 ∧ crc l ≠ 558161692)) := hid (by
      by_cases h4 : l.length < 4
      · exact .inl ⟨h4, by rw [opened_short h4]⟩
      · exact .inr ⟨h4, opened_res HL.out h4⟩)
    generalize hll : l.length = n at *
    have HLL := hid hll; clear hll
    go_enter Tryd.func6, Tryd.ntmps6
    go_wp2_with fail
    refine (Seal_any _ _ l _ HN.out HV.out HL.out (by rw [HLL.out]; have := HLE.out; omega)).mono ?_
    rintro e w1 ⟨a1, n1, c1, rfl, hn1, ho1, hk1⟩
    have S1 := hid (own_sl ho1 hn1)
    have Q1 := hid hk1
    clear hn1 ho1 hk1
    go_wp2_with fail
    refine (Sum_any _ _ (seal_ l) _ (HN.out.keep Q1.out (fun h => h)) S1.out (seal_lt HL.out) (by have := HLE.out; have := HLL.out; simp [seal_, le4]; omega)).mono ?_
    rintro e w2 ⟨rfl, rfl⟩
    rw [crc_seal HL.out]
    go_wp2_with fail
    refine (Open_any _ _ l _ (HN.out.keep Q1.out (fun h => h)) (HV.out.keep Q1.out (fun _ _ _ h => h)) HL.out (by rw [HLL.out]; have := HLE.out; omega)).mono ?_
    rintro e w2 ⟨a2, n2, c2, rfl, hn2, ho2, hk2⟩
    clear hn2 ho2
    have Q2 : Hd (Keeps (fun _ => False) w w2) := hid (Q1.out.trans hk2)
    have N2 := hid (HN.out.keep Q2.out (fun h => h))
    clear hk2
    rcases HR.out with ⟨h4, ho⟩ | ⟨h4, ⟨ho, hc⟩ | ⟨ho, hc⟩⟩
    · rw [ho]
      clear HR ho
      have h5 : (n : Int) < 4 := by omega
      go_wp2_with fail
      refine (lives_any _ N2.out).mono ?_
      rintro e w6 ⟨rfl, hk6⟩
      have Q6 := hid (Q2.out.trans hk6)
      clear hk6
      go_wp2
      go_ret
      exact ⟨rfl, Q6.out⟩
    all_goals
      rw [ho]
      clear HR ho
      have HC := hid hc
      clear hc
      have h5 : (4 : Int) ≤ n := by omega
      go_wp2_with fail
      refine (Sum_any _ _ l _ N2.out (HV.out.keep Q2.out (fun _ _ _ h => h)) HL.out (by rw [HLL.out]; have := HLE.out; omega)).mono ?_
      rintro e w3 ⟨rfl, rfl⟩
      have hce := HC.out
      first
      | rw [hce]
      | have hcf : ((crc l : Int) == 558161692) = false := by simp; omega
      clear hce
      go_wp2_with fail
      refine (lives_any _ N2.out).mono ?_
      rintro e w6 ⟨rfl, hk6⟩
      have Q6 := hid (Q2.out.trans hk6)
      clear hk6
      go_wp2
      go_ret
      exact ⟨rfl, Q6.out⟩
end Go.Proofs.YtegdlgnofbjjcaaDoor
