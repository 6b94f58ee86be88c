/- The walk of the law CrcJoins. -/
import Derived.Test.YtegdlgnofbjjcaaDoorCrcO
namespace Go.Proofs.YtegdlgnofbjjcaaDoor
open Go.RowKit
attribute [local go_sem ↓] Go.wp_at_zero Go.wp_at_succ
/-- an empty literal of bytes -/
theorem own_empty (w : World) : Own (fun k => w.heap.size ≤ k) (w.alloc (.cells #[] 5)) 5 1 (.slice (some ⟨w.heap.size, 0, none⟩) 0 0) 0 [] :=
  ⟨World.ownsRow_lit w #[] 0 (Nat.zero_le _) (Nat.zero_le _) rfl, fun k hk => by injection hk with hk; simp at hk; omega⟩
theorem crc_upd (a b : List Nat) : upd (crc a) b = crc (a ++ b) := by unfold crc; rw [upd_app]
theorem keeps_app {w w1 : World} {o : Obj} (hg : Keeps (fun k => w.heap.size ≤ k) (w.alloc o) w1) : Keeps (fun _ => False) w w1 := (keeps_alloc _ w _).after hg
set_option maxRecDepth 100000 in set_option maxHeartbeats 1000000 in
theorem joins_any (v0 v1 v2 : Value) (x y z : List Nat) (w : World) (hN : Nib w) (h0 : Sl (fun b => b < w.heap.size) w v0 (u8s x)) (h1 : Sl (fun b => b < w.heap.size) w v1 (u8s y)) (h2 : Sl (fun b => b < w.heap.size) w v2 (u8s z))
    (hx : ∀ c ∈ x, c < 256) (hy : ∀ c ∈ y, c < 256) (hz : ∀ c ∈ z, c < 256) :
    Calls Tryd.prog 10 #[v0, v1, v2] w fun e w' => e = .returned (.bool true) ∧ Keeps (fun _ => False) w w' := by
  obtain ⟨i0, hi, hz0, hz1, hz2⟩ := info_parts infoU8
  have HN := hid hN; have H0 := hid h0; have H1 := hid h1; have H2 := hid h2; have HX := hid hx; have HY := hid hy; have HZ := hid hz
  obtain ⟨a0, cap0, rfl, _, q0, _⟩ := h0.bytes
  obtain ⟨a1, cap1, rfl, _, q1, _⟩ := h1.bytes
  obtain ⟨a2, cap2, rfl, _, q2, _⟩ := h2.bytes
  clear hN h0 h1 h2 hx hy hz
  unfold maxLen at q0 q1 q2
  by_cases hlong : (1000 < x.length) ∨ (x.length ≤ 1000 ∧ 1000 < y.length) ∨ (x.length ≤ 1000 ∧ y.length ≤ 1000 ∧ 1000 < z.length)
  · clear H0 H1 H2 HX HY HZ
    generalize x.length = nx at *
    generalize y.length = ny at *
    generalize z.length = nz at *
    rcases hlong with hl | ⟨hl1, hl⟩ | ⟨hl1, hl2, hl⟩
    all_goals
      go_enter Tryd.func10, Tryd.ntmps10
      go_wp2_with fail
      refine (lives_any _ HN.out).mono ?_
      rintro e w6 ⟨rfl, hk6⟩
      have Q6 := hid hk6
      clear hk6
      go_wp2
      go_ret
      exact ⟨rfl, Q6.out⟩
  · have lx : x.length ≤ 1000 := by omega
    have ly : y.length ≤ 1000 := by omega
    have lz : z.length ≤ 1000 := by omega
    clear hlong
    have hXYZ : ∀ c ∈ x ++ y ++ z, c < 256 := by
      intro c hc
      simp only [List.mem_append] at hc
      rcases hc with (hc | hc) | hc
      · exact HX.out c hc
      · exact HY.out c hc
      · exact HZ.out c hc
    have HXYZ := hid hXYZ; clear hXYZ
    have e1 : comb (comb (crc x) (crc y) y.length) (crc z) z.length = crc (x ++ y ++ z) := by rw [← crc_app, ← crc_app]
    have e2 : comb (crc x) (comb (crc y) (crc z) z.length) (y.length + z.length) = crc (x ++ y ++ z) := by rw [← comb_comb, e1]
    have E1 := hid e1; have E2 := hid e2
    have E3 : Hd (upd (upd (crc x) y) z = crc (x ++ y ++ z)) := hid (by rw [crc_upd, crc_upd])
    have CX := hid (crc_lt HX.out); have CY := hid (crc_lt HY.out); have CZ := hid (crc_lt HZ.out)
    clear e1 e2
    generalize hnx : x.length = nx at *
    generalize hny : y.length = ny at *
    generalize hnz : z.length = nz at *
    have HNX := hid hnx; have HNY := hid hny; have HNZ := hid hnz
    clear hnx hny hnz
    have CYZ := hid (comb_lt nz CY.out CZ.out); have CXY := hid (comb_lt ny CX.out CY.out)
    have HO := hid (own_empty w)
    have S0 : Hd (Sl (fun b => b < w.heap.size) (w.alloc (.cells #[] 5)) (.slice a0 nx cap0) (u8s x)) := hid (H0.out.keep (keeps_alloc (fun _ => False) w (.cells #[] 5)) (fun _ _ _ h => h))
    go_enter Tryd.func10, Tryd.ntmps10
    go_wp2_with (at_builtin; refine wpList_append_row rfl _ _ 22 rfl 5 i0 (.int .u8 0) 1 1 Tryd.underlying22 hi hz0 hz1 hz2 rfl (by decide) _ (fun b => b < w.heap.size) _ _ _ _ rfl HO.out nx _ rfl (sl_row S0.out (by simp [HNX.out])) (u8s_one _) ?h1 ?h2 ?_)
    case h1 => simp [maxLen]; omega
    case h2 => omega
    intro a3 c3 w1 hown hgrow; try intro _
    try simp only [Nat.zero_add, List.nil_append] at hown
    have O1 : Hd (Own (fun k => w.heap.size ≤ k) w1 5 1 (.slice a3 nx c3) nx (u8s x)) := hid (by have := hown.mono (K' := fun k => w.heap.size ≤ k) (fun b _ hh => by rcases hh with hh | hh <;> (try simp at hh) <;> omega); simpa using this)
    have K1 : Hd (Keeps (fun _ => False) w w1) := hid (keeps_app hgrow)
    have S1 : Hd (Sl (fun b => b < w.heap.size) w1 (.slice a1 ny cap1) (u8s y)) := hid (H1.out.keep K1.out (fun _ _ _ h => h))
    clear hown hgrow HO S0
    go_wp2_with (at_builtin; refine wpList_append_row rfl _ _ 22 rfl 5 i0 (.int .u8 0) 1 1 Tryd.underlying22 hi hz0 hz1 hz2 rfl (by decide) _ (fun b => b < w.heap.size) _ _ _ _ rfl O1.out ny _ rfl (sl_row S1.out (by simp [HNY.out])) (u8s_one _) ?h1 ?h2 ?_)
    case h1 => simp [maxLen]; omega
    case h2 => omega
    intro a4 c4 w2 hown hgrow; try intro _
    have K2 : Hd (Keeps (fun _ => False) w w2) := hid (K1.out.trans' hgrow (fun i hi hs => by omega))
    have S2 : Hd (Sl (fun b => b < w2.heap.size) (w2.alloc (.cells #[] 5)) (.slice a4 (nx + ny) c4) (u8s (x ++ y))) := hid (by
      rw [← u8s_append] at hown
      have := (own_sl hown (by simp [HNX.out, HNY.out])).mono (K' := fun b => b < w2.heap.size) (fun b hb _ => hb)
      exact this.keep (keeps_alloc (fun _ => False) w2 (.cells #[] 5)) (fun _ _ _ h => h))
    clear hown hgrow S1 O1
    have HO2 := hid (own_empty w2)
    go_wp2_with (at_builtin; refine wpList_append_row rfl _ _ 22 rfl 5 i0 (.int .u8 0) 1 1 Tryd.underlying22 hi hz0 hz1 hz2 rfl (by decide) _ (fun b => b < w2.heap.size) _ _ _ _ rfl HO2.out (nx + ny) _ rfl (sl_row S2.out (by simp [HNX.out, HNY.out])) (u8s_one _) ?h1 ?h2 ?_)
    case h1 => simp [maxLen]; omega
    case h2 => omega
    intro a5 c5 w3 hown hgrow; try intro _
    try simp only [Nat.zero_add, List.nil_append] at hown
    have O3 : Hd (Own (fun k => w2.heap.size ≤ k) w3 5 1 (.slice a5 (nx + ny) c5) (nx + ny) (u8s (x ++ y))) := hid (by have := hown.mono (K' := fun k => w2.heap.size ≤ k) (fun b _ hh => by rcases hh with hh | hh <;> (try simp at hh) <;> omega); simpa using this)
    have K3 : Hd (Keeps (fun _ => False) w w3) := hid (K2.out.trans (keeps_app hgrow))
    have S3 : Hd (Sl (fun b => b < w.heap.size) w3 (.slice a2 nz cap2) (u8s z)) := hid (H2.out.keep K3.out (fun _ _ _ h => h))
    clear hown hgrow HO2 S2
    go_wp2_with (at_builtin; refine wpList_append_row rfl _ _ 22 rfl 5 i0 (.int .u8 0) 1 1 Tryd.underlying22 hi hz0 hz1 hz2 rfl (by decide) _ (fun b => b < w.heap.size) _ _ _ _ rfl O3.out nz _ rfl (sl_row S3.out (by simp [HNZ.out])) (u8s_one _) ?h1 ?h2 ?_)
    case h1 => simp [maxLen]; omega
    case h2 => omega
    intro a6 c6 w4 hown hgrow; try intro _
    have K4 : Hd (Keeps (fun _ => False) w w4) := hid (K3.out.trans' hgrow (fun i hi hs => by have := K2.out.size; omega))
    have S4 : Hd (Sl (fun b => b < w4.heap.size) w4 (.slice a6 (nx + ny + nz) c6) (u8s (x ++ y ++ z))) := hid (by
      rw [← u8s_append] at hown
      exact (own_sl hown (by simp [HNX.out, HNY.out, HNZ.out]; omega)).mono (K' := fun b => b < w4.heap.size) (fun b hb _ => hb))
    clear hown hgrow S3 O3 K1 K2 K3
    have N4 := hid (HN.out.keep K4.out (fun h => h))
    go_wp2_with fail
    refine (Sum_any _ _ x _ N4.out (H0.out.keep K4.out (fun _ _ _ h => h)) HX.out (by rw [HNX.out]; omega)).mono ?_
    rintro e w_ ⟨rfl, rfl⟩
    go_wp2_with fail
    refine (Sum_any _ _ y _ N4.out (H1.out.keep K4.out (fun _ _ _ h => h)) HY.out (by rw [HNY.out]; omega)).mono ?_
    rintro e w_ ⟨rfl, rfl⟩
    go_wp2_with fail
    refine (Sum_any _ _ z _ N4.out (H2.out.keep K4.out (fun _ _ _ h => h)) HZ.out (by rw [HNZ.out]; omega)).mono ?_
    rintro e w_ ⟨rfl, rfl⟩
    go_wp2_with fail
    refine (Combine_any (crc x) (crc y) ny _ N4.out CX.out CY.out (by omega)).mono ?_
    rintro e w5 ⟨rfl, hk⟩
    have K5 : Hd (Keeps (fun _ => False) w4 w5) := hid hk
    clear hk
    go_wp2_with fail
    refine (Combine_any (comb (crc x) (crc y) ny) (crc z) nz _ (N4.out.keep K5.out (fun h => h)) CXY.out CZ.out (by omega)).mono ?_
    rintro e w6 ⟨rfl, hk⟩
    rw [E1.out]
    replace K5 : Hd (Keeps (fun _ => False) w4 w6) := hid (K5.out.trans hk)
    clear hk
    go_wp2_with fail
    refine (Combine_any (crc y) (crc z) nz _ (N4.out.keep K5.out (fun h => h)) CY.out CZ.out (by omega)).mono ?_
    rintro e w7 ⟨rfl, hk⟩
    replace K5 : Hd (Keeps (fun _ => False) w4 w7) := hid (K5.out.trans hk)
    clear hk
    go_wp2_with fail
    refine (Combine_any (crc x) (comb (crc y) (crc z) nz) (ny + nz) _ (N4.out.keep K5.out (fun h => h)) CX.out CYZ.out (by omega)).mono ?_
    rintro e w8 ⟨rfl, hk⟩
    rw [E2.out]
    replace K5 : Hd (Keeps (fun _ => False) w4 w8) := hid (K5.out.trans hk)
    clear hk
    go_wp2_with fail
    refine (Sum_any _ _ (x ++ y ++ z) _ (N4.out.keep K5.out (fun h => h)) (S4.out.keep K5.out (fun _ _ _ h => h)) HXYZ.out (by simp only [List.length_append]; rw [HNX.out, HNY.out, HNZ.out]; omega)).mono ?_
    rintro e w_ ⟨rfl, rfl⟩
    go_wp2_with fail
    have K45 := hid (K4.out.trans K5.out)
    refine (Update_any _ (crc x) _ y _ (N4.out.keep K5.out (fun h => h)) (H1.out.keep K45.out (fun _ _ _ h => h)) CX.out HY.out (by rw [HNY.out]; omega)).mono ?_
    rintro e w_ ⟨rfl, rfl⟩
    go_wp2_with fail
    refine (Update_any _ (upd (crc x) y) _ z _ (N4.out.keep K5.out (fun h => h)) (H2.out.keep K45.out (fun _ _ _ h => h)) (upd_lt CX.out HY.out) HZ.out (by rw [HNZ.out]; omega)).mono ?_
    rintro e w_ ⟨rfl, rfl⟩
    rw [E3.out]
    go_wp2_with fail
    refine (Update_any (fun _ => True) (crc x) _ [] _ (N4.out.keep K5.out (fun h => h)) (Sl.nil _ _) CX.out (by decide) (by decide)).mono ?_
    rintro e w_ ⟨rfl, rfl⟩
    rw [upd_nil]
    go_wp2_with fail
    refine (Combine_any (crc x) 0 0 _ (N4.out.keep K5.out (fun h => h)) CX.out (by omega) (by omega)).mono ?_
    rintro e w9 ⟨rfl, hk⟩
    rw [comb_zero]
    replace K5 : Hd (Keeps (fun _ => False) w4 w9) := hid (K5.out.trans hk)
    clear hk
    go_wp2_with fail
    refine (lives_any _ (N4.out.keep K5.out (fun h => h))).mono ?_
    rintro e w10 ⟨rfl, hk⟩
    replace K5 : Hd (Keeps (fun _ => False) w4 w10) := hid (K5.out.trans hk)
    clear hk
    go_wp2
    go_ret
    exact ⟨rfl, K4.out.trans K5.out⟩
end Go.Proofs.YtegdlgnofbjjcaaDoor
