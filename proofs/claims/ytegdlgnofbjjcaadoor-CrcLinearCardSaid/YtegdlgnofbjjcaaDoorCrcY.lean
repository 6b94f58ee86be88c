/- The walk of the law CrcLinear. -/
import Derived.Test.YtegdlgnofbjjcaaDoorCrcX
import Derived.Test.YtegdlgnofbjjcaaDoorRegion
import Derived.Deep.Cut
import Derived.BigQuiet
namespace Go.Proofs.YtegdlgnofbjjcaaDoor
open Go.RowKit
attribute [local go_sem ↓] Go.wp_at_zero Go.wp_at_succ
theorem num_mix3 : ∀ a b c : List Nat, num (mix3 a b c) = num (a.take (mix3 a b c).length) ^^^ num (b.take (mix3 a b c).length) ^^^ num (c.take (mix3 a b c).length)
  | [], b, c => by simp [mix3, num]
  | x :: a, [], c => by simp [mix3, num]
  | x :: a, y :: b, [] => by simp [mix3, num]
  | x :: a, y :: b, z :: c => by
    have ih := num_mix3 a b c
    simp only [mix3, List.length_cons, List.take_succ_cons, num]
    rw [ih, show (256 : Nat) = 2 ^ 8 from rfl, xor_mul, xor_mul]
    ac_rfl
theorem crc_mix3 (a b c : List Nat) : crc (mix3 a b c) = crc (a.take (mix3 a b c).length) ^^^ crc (b.take (mix3 a b c).length) ^^^ crc (c.take (mix3 a b c).length) := by
  have hl := mix3_len a b c
  have h := num_mix3 a b c
  generalize hm : mix3 a b c = m at *
  have la : (a.take m.length).length = m.length := by rw [List.length_take]; omega
  have lb : (b.take m.length).length = m.length := by rw [List.length_take]; omega
  have lc : (c.take m.length).length = m.length := by rw [List.length_take]; omega
  rw [crc_num, crc_num, crc_num, crc_num, la, lb, lc, h]
  simp only [steps_xor]
  generalize steps (8 * m.length) full = F
  generalize steps (8 * m.length) (num (a.take m.length)) = A
  generalize steps (8 * m.length) (num (b.take m.length)) = B
  generalize steps (8 * m.length) (num (c.take m.length)) = C
  have e : F ^^^ A ^^^ full ^^^ (F ^^^ B ^^^ full) ^^^ (F ^^^ C ^^^ full) = (F ^^^ F) ^^^ (full ^^^ full) ^^^ (F ^^^ (A ^^^ B ^^^ C) ^^^ full) := by ac_rfl
  rw [e, Nat.xor_self, Nat.xor_self, Nat.zero_xor, Nat.zero_xor]
theorem mix3_lt : ∀ {a b c : List Nat}, (∀ u ∈ a, u < 256) → (∀ u ∈ b, u < 256) → (∀ u ∈ c, u < 256) → ∀ u ∈ mix3 a b c, u < 256
  | [], b, c => by simp [mix3]
  | x :: a, [], c => by simp [mix3]
  | x :: a, y :: b, [] => by simp [mix3]
  | x :: a, y :: b, z :: c => by
    intro ha hb hc u hu
    simp only [mix3, List.mem_cons] at hu
    rcases hu with rfl | hu
    · exact xor_lt (n := 8) (xor_lt (n := 8) (ha x (by simp)) (hb y (by simp))) (hc z (by simp))
    · exact mix3_lt (fun v hv => ha v (List.mem_cons_of_mem _ hv)) (fun v hv => hb v (List.mem_cons_of_mem _ hv)) (fun v hv => hc v (List.mem_cons_of_mem _ hv)) u hu
set_option maxRecDepth 100000 in set_option maxHeartbeats 1000000 in
theorem linear_any (v0 v1 v2 : Value) (x y z : List Nat) (w : World) (hN : Nib w) (h0 : Sl (fun b => b < w.heap.size) w v0 (u8s x)) (h1 : Sl (fun b => b < w.heap.size) w v1 (u8s y)) (h2 : Sl (fun b => b < w.heap.size) w v2 (u8s z))
    (hx : ∀ c ∈ x, c < 256) (hy : ∀ c ∈ y, c < 256) (hz : ∀ c ∈ z, c < 256) (hm : x.length ≤ 140737488351232) :
    Calls Tryd.prog 7 #[v0, v1, v2] w fun e w' => e = .returned (.bool true) ∧ Keeps (fun _ => False) w w' := by
  obtain ⟨i0, hi, hz0, hz1, hz2⟩ := info_parts infoU8
  have HN := hid hN; have H0 := hid h0; have H1 := hid h1; have H2 := hid h2; have HX := hid hx; have HY := hid hy; have HZ := hid hz
  have HM := hid hm; have HML := hid (mix3_len x y z); have HMX := hid (crc_mix3 x y z); have HMT := hid (mix3_lt hx hy hz)
  obtain ⟨a0, cap0, rfl, _, q0, _⟩ := h0.bytes
  obtain ⟨a1, cap1, rfl, _, q1, _⟩ := h1.bytes
  obtain ⟨a2, cap2, rfl, _, q2, _⟩ := h2.bytes
  clear hN h0 h1 h2 hx hy hz hm
  unfold maxLen at q0 q1 q2
  have R0 : Row (fun b => b < w.heap.size) w 1 (.slice a0 x.length cap0) x.length (u8s x) := sl_row H0.out (by simp)
  have R1 : Row (fun b => b < w.heap.size) w 1 (.slice a1 y.length cap1) y.length (u8s y) := sl_row H1.out (by simp)
  have R2 : Row (fun b => b < w.heap.size) w 1 (.slice a2 z.length cap2) z.length (u8s z) := sl_row H2.out (by simp)
  obtain ⟨n, hn⟩ : ∃ n, n = (mix3 x y z).length := ⟨_, rfl⟩
  have hn1 : n ≤ x.length := by rw [hn, HML.out]; omega
  have hn2 : n ≤ y.length := by rw [hn, HML.out]; omega
  have hn3 : n ≤ z.length := by rw [hn, HML.out]; omega
  obtain ⟨a4, c4, hcut4, S4⟩ := run_cut_to (P := Tryd.prog) (t := 22) Tryd.underlying22 hi hz1 R0 (hh := (n : Int)) n rfl hn1
  obtain ⟨a5, c5, hcut5, S5⟩ := run_cut_to (P := Tryd.prog) (t := 22) Tryd.underlying22 hi hz1 R1 (hh := (n : Int)) n rfl hn2
  obtain ⟨a6, c6, hcut6, S6⟩ := run_cut_to (P := Tryd.prog) (t := 22) Tryd.underlying22 hi hz1 R2 (hh := (n : Int)) n rfl hn3
  have l4 : (x.take n).length = n := by rw [List.length_take]; omega
  have l5 : (y.take n).length = n := by rw [List.length_take]; omega
  have l6 : (z.take n).length = n := by rw [List.length_take]; omega
  have T4 : Hd (Sl (fun b => b < w.heap.size) w (.slice a4 n c4) (u8s (x.take n))) := hid (by
    have := S4; rw [show (u8s x).take (n * 1) = u8s (x.take n) by simp [u8s, List.map_take]] at this
    exact row_sl this (by rw [u8s_length]; exact l4))
  have T5 : Hd (Sl (fun b => b < w.heap.size) w (.slice a5 n c5) (u8s (y.take n))) := hid (by
    have := S5; rw [show (u8s y).take (n * 1) = u8s (y.take n) by simp [u8s, List.map_take]] at this
    exact row_sl this (by rw [u8s_length]; exact l5))
  have T6 : Hd (Sl (fun b => b < w.heap.size) w (.slice a6 n c6) (u8s (z.take n))) := hid (by
    have := S6; rw [show (u8s z).take (n * 1) = u8s (z.take n) by simp [u8s, List.map_take]] at this
    exact row_sl this (by rw [u8s_length]; exact l6))
  have L4 := hid l4; have L5 := hid l5; have L6 := hid l6; have HNM := hid hn
  clear S4 S5 S6 R0 R1 R2 l4 l5 l6 hi hz0 hz1 hz2
  have HE : Hd (crc (mix3 x y z) = crc (x.take n) ^^^ crc (y.take n) ^^^ crc (z.take n)) := hid (by rw [HNM.out]; exact HMX.out)
  clear hn HMX
  have P0 := hid H0.out.bytes
  generalize hnx : x.length = nx at *
  have HNX := hid hnx; clear hnx
  generalize y.length = ny at *
  generalize z.length = nz at *
  go_enter Tryd.func7, Tryd.ntmps7
  go_wp2_with fail
  refine (mixed_any _ _ _ _ x y z _ H0.out H1.out H2.out HX.out HY.out HZ.out (by rw [HNX.out]; exact HM.out)).mono ?_
  rintro e w1 ⟨a3, n3, c3, rfl, hq3, ho3, hk3⟩
  have hq4 : n3 = n := by rw [hq3, u8s_length, HNM.out]
  have S3 := hid (own_sl ho3 hq3)
  have Q3 := hid hk3
  clear hq3 ho3 hk3
  subst hq4
  have N3 := hid (HN.out.keep Q3.out (fun h => h))
  by_cases hlong : (n3 : Int) > 4096
  · go_wp2_with fail
    refine (lives_any _ N3.out).mono ?_
    rintro e w6 ⟨rfl, hk6⟩
    have Q6 := hid (Q3.out.trans hk6)
    clear hk6
    go_wp2
    go_ret
    exact ⟨rfl, Q6.out⟩
  · have C3 : Hd (∀ e : Ext w1, Calls Tryd.prog 14 #[.slice a3 n3 c3] e.w fun r w' => r = .returned (.int .u32 (crc (x.take n3) ^^^ crc (y.take n3) ^^^ crc (z.take n3) : Nat)) ∧ e.w = w') := hid (fun e => by
      have := Sum_any (fun _ => True) _ (mix3 x y z) e.w (N3.out.keep e.k (fun h => h)) ((S3.out.keep e.k (fun _ _ _ h => h)).mono (fun _ _ _ => trivial)) HMT.out (by rw [← HNM.out]; omega)
      rw [HE.out] at this; exact this)
    have C4 : Hd (∀ e : Ext w1, Calls Tryd.prog 14 #[.slice a4 n3 c4] e.w fun r w' => r = .returned (.int .u32 (crc (x.take n3) : Nat)) ∧ e.w = w') := hid (fun e =>
      Sum_any (fun _ => True) _ (x.take n3) e.w (N3.out.keep e.k (fun h => h)) ((T4.out.keep (Q3.out.trans e.k) (fun _ _ _ h => h)).mono (fun _ _ _ => trivial)) (take_lt HX.out _) (by rw [L4.out]; omega))
    have C5 : Hd (∀ e : Ext w1, Calls Tryd.prog 14 #[.slice a5 n3 c5] e.w fun r w' => r = .returned (.int .u32 (crc (y.take n3) : Nat)) ∧ e.w = w') := hid (fun e =>
      Sum_any (fun _ => True) _ (y.take n3) e.w (N3.out.keep e.k (fun h => h)) ((T5.out.keep (Q3.out.trans e.k) (fun _ _ _ h => h)).mono (fun _ _ _ => trivial)) (take_lt HY.out _) (by rw [L5.out]; omega))
    have C6 : Hd (∀ e : Ext w1, Calls Tryd.prog 14 #[.slice a6 n3 c6] e.w fun r w' => r = .returned (.int .u32 (crc (z.take n3) : Nat)) ∧ e.w = w') := hid (fun e =>
      Sum_any (fun _ => True) _ (z.take n3) e.w (N3.out.keep e.k (fun h => h)) ((T6.out.keep (Q3.out.trans e.k) (fun _ _ _ h => h)).mono (fun _ _ _ => trivial)) (take_lt HZ.out _) (by rw [L6.out]; omega))
    have C7 : Hd (∀ e : Ext w1, Calls Tryd.prog 13 #[] e.w fun r w' => r = .returned (.bool true) ∧ Keeps (fun _ => False) e.w w') := hid (fun e => lives_any _ (N3.out.keep e.k (fun h => h)))
    have x1 := u32_xor_nat (crc (x.take n3)) (crc (y.take n3)) (crc_lt (take_lt HX.out _)) (crc_lt (take_lt HY.out _))
    have x2 := u32_xor_nat (crc (x.take n3) ^^^ crc (y.take n3)) (crc (z.take n3)) (xor_lt (n := 32) (crc_lt (take_lt HX.out _)) (crc_lt (take_lt HY.out _))) (crc_lt (take_lt HZ.out _))
    go_upto_region 5 with fail
    refine wp_region_ext (by kernel_rfl) (by kernel_rfl) ?_
    repeat (go_big_quiet_step (first | (go_at_call 14; first | exact ext_same (C4.out _) | exact ext_same (C5.out _) | exact ext_same (C6.out _) | exact ext_same (C3.out _)) | (go_at_call 13; exact ext_call (C7.out _))))
    refine wpQuiet_nil ?_
    rintro _ ⟨e, rfl⟩
    go_wp2
    go_ret
    exact ⟨rfl, Q3.out.trans e.k⟩
end Go.Proofs.YtegdlgnofbjjcaaDoor
