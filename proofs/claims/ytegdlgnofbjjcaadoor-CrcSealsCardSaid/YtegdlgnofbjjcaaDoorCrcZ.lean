/- The walk of the law CrcSeals. -/
import Derived.Test.YtegdlgnofbjjcaaDoorCrcOS
import Derived.Deep.RegionWith
import Derived.Deep.Cut
import Derived.Deep.RegionHeld
namespace Go.Proofs.YtegdlgnofbjjcaaDoor
open Go.RowKit
attribute [local go_sem ↓] Go.wp_at_zero Go.wp_at_succ
set_option maxRecDepth 100000 in set_option maxHeartbeats 4000000 in
theorem seals_any (v : Value) (l : List Nat) (w : World) (hN : Nib w) (hv : Sl (fun b => b < w.heap.size) w v (u8s l)) (hl : ∀ c ∈ l, c < 256) :
    Calls Tryd.prog 5 #[v] w fun e w' => e = .returned (.bool true) ∧ Keeps (fun _ => False) w w' := by
  have HN := hid hN; have HV := hid hv; have HL := hid hl
  obtain ⟨a, cap, rfl, q1, q2, q3⟩ := hv.bytes
  clear hN hv hl q3
  unfold maxLen at q2
  by_cases hlong : (l.length : Int) > 4096
  · generalize l.length = n at *
    go_enter Tryd.func5, Tryd.ntmps5
    go_wp2_with fail
    refine (lives_any _ HN.out).mono ?_
    rintro e w6 ⟨rfl, hk6⟩
    have Q6 := hid hk6
    clear hk6
    go_wp2
    go_ret
    exact ⟨rfl, Q6.out⟩
  · have HLE : Hd (l.length ≤ 4096) := hid (by omega)
    have HSL := hid (seal_lt HL.out)
    have HSLL : Hd ((seal_ l).length ≤ 4100) := hid (by have := HLE.out; simp [seal_, le4]; omega)
    have HOL := hid (opened_lt HL.out)
    generalize hll : l.length = n at *
    have HLL := hid hll; clear hll
    go_enter Tryd.func5, Tryd.ntmps5
    go_wp2_with fail
    refine (Seal_any _ _ l _ HN.out HV.out HL.out (by rw [HLL.out]; have := HLE.out; omega)).mono ?_
    rintro e w1 ⟨a1, n1, c1, rfl, hn1, ho1, hk1⟩
    have S1 : Hd (Sl (fun _ => True) w1 (.slice a1 n1 c1) (u8s (seal_ l))) := hid ((own_sl ho1 hn1).mono (fun _ _ _ => trivial))
    have Q1 := hid hk1
    clear hn1 ho1 hk1
    go_wp2_with fail
    refine (Open_any _ _ l _ (HN.out.keep Q1.out (fun h => h)) (HV.out.keep Q1.out (fun _ _ _ h => h)) HL.out (by rw [HLL.out]; have := HLE.out; omega)).mono ?_
    rintro e w2 ⟨a2, n2, c2, rfl, hn2, ho2, hk2⟩
    have S2 : Hd (Sl (fun _ => True) w2 (.slice a2 n2 c2) (u8s (opened l).1)) := hid ((own_sl ho2 (by rw [u8s_length]; exact hn2)).mono (fun _ _ _ => trivial))
    replace S1 := hid (S1.out.keep hk2 (fun _ _ _ h => h))
    replace Q1 : Hd (Keeps (fun _ => False) w w2) := hid (Q1.out.trans hk2)
    clear hn2 ho2 hk2
    go_wp2_with fail
    refine (ROpen_any _ _ l _ (HV.out.keep Q1.out (fun _ _ _ h => h)) HL.out (by rw [HLL.out]; have := HLE.out; omega)).mono ?_
    rintro e w3 ⟨a3, n3, c3, rfl, hn3, ho3, hk3⟩
    have S3 : Hd (Sl (fun _ => True) w3 (.slice a3 n3 c3) (u8s (opened l).1)) := hid ((own_sl ho3 (by rw [u8s_length]; exact hn3)).mono (fun _ _ _ => trivial))
    replace S1 := hid (S1.out.keep hk3 (fun _ _ _ h => h))
    replace S2 := hid (S2.out.keep hk3 (fun _ _ _ h => h))
    replace Q1 : Hd (Keeps (fun _ => False) w w3) := hid (Q1.out.trans hk3)
    clear hn3 ho3 hk3
    go_wp2_with fail
    refine (Open_any _ _ (seal_ l) _ (HN.out.keep Q1.out (fun h => h)) S1.out HSL.out (by have := HSLL.out; omega)).mono ?_
    rintro e w4 ⟨a4, n4, c4, rfl, hn4, ho4, hk4⟩
    rw [opened_seal] at hn4 ho4 ⊢
    have S4 : Hd (Sl (fun _ => True) w4 (.slice a4 n4 c4) (u8s l)) := hid ((own_sl ho4 (by rw [u8s_length]; exact hn4)).mono (fun _ _ _ => trivial))
    replace S1 := hid (S1.out.keep hk4 (fun _ _ _ h => h))
    replace S2 := hid (S2.out.keep hk4 (fun _ _ _ h => h))
    replace S3 := hid (S3.out.keep hk4 (fun _ _ _ h => h))
    replace Q1 : Hd (Keeps (fun _ => False) w w4) := hid (Q1.out.trans hk4)
    clear hn4 ho4 hk4
    have S0 : Hd (Sl (fun _ => True) w4 (.slice a n cap) (u8s l)) := hid ((HV.out.keep Q1.out (fun _ _ _ h => h)).mono (fun _ _ _ => trivial))
    have N4 := hid (HN.out.keep Q1.out (fun h => h))
    generalize (opened l).2 = z2 at *
    generalize (opened l).1 = o1 at *
    go_upto_region 7 with fail
    have HSS : Hd (∀ w', Keeps (fun _ => False) w4 w' → ((convert 22 9 (.slice a1 n1 c1)).run Tryd.prog w' = .ok (.string (str (seal_ l))) w' ∧ (convert 22 9 (.slice a2 n2 c2)).run Tryd.prog w' = .ok (.string (str o1)) w' ∧ (convert 22 9 (.slice a3 n3 c3)).run Tryd.prog w' = .ok (.string (str o1)) w' ∧ (convert 22 9 (.slice a4 n4 c4)).run Tryd.prog w' = .ok (.string (str l)) w' ∧ (convert 22 9 (.slice a n cap)).run Tryd.prog w' = .ok (.string (str l)) w')) := hid (fun w' hk => ⟨conv_sl (S1.out.keep hk (fun _ _ _ h => h)) HSL.out, conv_sl (S2.out.keep hk (fun _ _ _ h => h)) HOL.out, conv_sl (S3.out.keep hk (fun _ _ _ h => h)) HOL.out, conv_sl (S4.out.keep hk (fun _ _ _ h => h)) HL.out, conv_sl (S0.out.keep hk (fun _ _ _ h => h)) HL.out⟩)
    have hs1 : ((str (seal_ l)).toList == (str (seal_ l)).toList) = true := beq_self_eq_true _
    have hs2 : ((str o1).toList == (str o1).toList) = true := beq_self_eq_true _
    have hs3 : ((str l).toList == (str l).toList) = true := beq_self_eq_true _
    go_region_held (fun w' => (convert 22 9 (.slice a1 n1 c1)).run Tryd.prog w' = .ok (.string (str (seal_ l))) w' ∧ (convert 22 9 (.slice a2 n2 c2)).run Tryd.prog w' = .ok (.string (str o1)) w' ∧ (convert 22 9 (.slice a3 n3 c3)).run Tryd.prog w' = .ok (.string (str o1)) w' ∧ (convert 22 9 (.slice a4 n4 c4)).run Tryd.prog w' = .ok (.string (str l)) w' ∧ (convert 22 9 (.slice a n cap)).run Tryd.prog w' = .ok (.string (str l)) w') (first | exact HSS.out _ (Keeps.drew (Keeps.refl _ _)) | exact HSS.out _ K6.out | exact HSS.out _ K5.out) (first | (go_at_call 23; refine (RSeal_any (fun b => True) _ l _ (S0.out.keep (Keeps.drew (Keeps.refl (fun _ => False) w4)) (fun _ _ _ h => h)) HL.out (by rw [HLL.out]; have := HLE.out; omega)).mono ?_; rintro e w5 ⟨a5, n5, c5, rfl, hn5, ho5, hk5⟩; have K5 : Hd (Keeps (fun _ => False) w4 w5) := hid (Keeps.trans (Keeps.drew (Keeps.refl (fun _ => False) w4)) hk5); have cv2 := conv_sl (own_sl ho5 hn5) HSL.out; clear hn5 ho5 hk5) | (go_at_call 13; refine (lives_any _ (N4.out.keep K5.out (fun h => h))).mono ?_; rintro e w6 ⟨rfl, hk6⟩; have K6 : Hd (Keeps (fun _ => False) w4 w6) := hid (K5.out.trans hk6); clear hk6))
    all_goals
      have K7 := hid (Q1.out.trans K6.out)
      go_wp2
      go_ret
      exact ⟨rfl, K7.out⟩
end Go.Proofs.YtegdlgnofbjjcaaDoor
