/- File: FileCuts, FileAnswers walked. -/
import Derived.Test.YtgeicbjlichdgaaDoorFileL
namespace Go.Proofs.YtgeicbjlichdgaaDoor
open Go.RowKit
attribute [local go_sem ↓] Go.wp_at_zero Go.wp_at_succ
theorem pieceL_b {id : Int} {b : List Nat} {u z : Int} (hb : ∀ c ∈ b, c < 256) : ∀ {n : Nat} {a : Int}, ∀ x ∈ pieceL id b u z n a, ∀ c ∈ x.d, c < 256
  | 0, a, x, hx => by cases hx
  | n + 1, a, x, hx => by
    unfold pieceL at hx
    split at hx
    · rcases List.mem_cons.1 hx with rfl | hx
      · exact fun c hc => hb c (List.mem_of_mem_take (List.mem_of_mem_drop hc))
      · exact pieceL_b hb x hx
    · cases hx
theorem answerL_b {id : Int} {b : List Nat} {gs : List (Int × Int)} {z : Int} (hb : ∀ c ∈ b, c < 256) : ∀ x ∈ answerL id b gs z, ∀ c ∈ x.d, c < 256 := by
  intro x hx
  unfold answerL at hx
  split at hx
  · cases hx
  · split at hx
    · simp at hx; subst hx; intro c hc; cases hc
    · obtain ⟨g, _, hg⟩ := List.mem_flatMap.1 hx
      exact pieceL_b hb x hg
theorem cutL_b {id : Int} {b : List Nat} {z : Int} (hb : ∀ c ∈ b, c < 256) : ∀ x ∈ cutL id b z, ∀ c ∈ x.d, c < 256 := by
  intro x hx
  unfold cutL at hx
  split at hx
  · cases hx
  · exact answerL_b hb x hx
theorem range_len {id : Int} {b : List Nat} {u : Int} (k : Nat) : ∀ (a : Int), u - a ≤ (k : Int) * 256 → (k = 0 ∨ ((k : Int) - 1) * 256 < u - a) → (rangeS id b a u 256).length = k := by
  induction k with
  | zero => intro a h _; rw [rangeS_end (by omega)]; rfl
  | succ k ih =>
    intro a h h2
    rw [rangeS_step (by omega) (by omega), List.length_cons, ih (a + 256) (by omega) (by omega)]
theorem gpX_take : ∀ (l : List (Int × Int)) (u : Nat), gpX (l.take u) = (gpX l).take (u * 2)
  | [], u => by simp [gpX]
  | x :: l, 0 => rfl
  | x :: l, u + 1 => by
    have ih := gpX_take l u
    show gpC x ++ gpX (l.take u) = (gpC x ++ gpX l).take ((u + 1) * 2)
    rw [ih, show (u + 1) * 2 = u * 2 + 1 + 1 by omega]
    rfl
theorem cut_zeros (id : Int) (b : List Nat) (h1 : 65280 < b.length) : (b.length ≤ 65536 → (cutL id b 256).length = 256 ∧ fitsL b 256 = 0) ∧ (65536 < b.length → cutL id b 256 = [] ∧ fitsL b 256 = 2) := by
  refine ⟨fun h => ?_, fun h => ?_⟩
  · have hf : fitsL b 256 = 0 := by unfold fitsL; rw [if_neg (by omega), if_neg (by omega)]
    refine ⟨?_, hf⟩
    rw [cutL_ref, if_neg (by rw [hf]; simp), if_neg (fun e => by rw [e] at h1; simp at h1)]
    exact range_len 256 0 (by omega) (by omega)
  · have hf : fitsL b 256 = 2 := by unfold fitsL; rw [if_neg (by omega), if_pos h]
    exact ⟨by unfold cutL; rw [if_pos (by rw [hf]; omega)], hf⟩
set_option maxRecDepth 100000 in set_option maxHeartbeats 1000000 in
theorem cuts_any (v1 : Value) (l1 : List Nat) (id n long : Int) (w : World) (hN : Cr.Nib w) (h1 : Sl (fun b => b < w.heap.size) w v1 (u8s l1)) (hl1 : ∀ c ∈ l1, c < 256) (hlong : -9223372036854775808 ≤ long ∧ long ≤ 9223372036854775807) :
    Calls Tryd.prog 3 #[.int .i64 id, v1, .int .i64 n, .int .i64 long] w fun e w' => e = .returned (.bool true) ∧ Keeps (fun _ => False) w w' := by
  have HN : Hd (NibF w) := hid hN
  have hpos := HN.out.pos
  have H1 := hid h1
  obtain ⟨few, hfew⟩ : ∃ few, l1.take 700 = few := ⟨_, rfl⟩
  have HFB : Hd (∀ c ∈ few, c < 256) := hid (by rw [← hfew]; exact fun c hc => hl1 c (List.mem_of_mem_take hc))
  have hfl : few.length ≤ 700 := by rw [← hfew, List.length_take]; omega
  have HFE := hid hfew
  have HLO := hid hlong
  clear hN h1 hl1 hfew hlong
  go_enter Tryd.func3, Tryd.ntmps3
  obtain ⟨A, hA⟩ : ∃ A, cutL id few n = A := ⟨_, rfl⟩
  obtain ⟨F, hF⟩ : ∃ F, fitsL few n = F := ⟨_, rfl⟩
  have HA := hid hA; have HF := hid hF
  have HAB : Hd (∀ x ∈ A, ∀ c ∈ x.d, c < 256) := hid (by rw [← hA]; exact cutL_b HFB.out)
  clear hA hF
  go_wp2_with fail
  refine (most_any _ _ l1 _ H1.out).mono ?_
  rw [HFE.out]
  rintro e wx ⟨ma1, mc1, rfl, hm1, rfl⟩
  have SM1 := hid hm1; clear hm1
  go_wp2_with fail
  refine (Cut_any _ few id n _ HN.out (SM1.out.mono (fun b h _ => h)) HFB.out (by omega)).mono ?_
  rw [HA.out, HF.out]
  rintro e W1 ⟨la, ln, lc, rfl, hln, hlp, hk⟩
  subst hln
  have SL := hid (hlp.sgs.mono (K' := fun _ => True) (fun _ _ _ => trivial))
  clear hlp
  have HN' : Hd (NibF W1) := hid (HN.out.keep hk (fun _ _ _ h => h))
  have H1' : Hd (Sl (fun b => b < w.heap.size) W1 v1 (u8s l1)) := hid (H1.out.keep hk (fun _ _ _ h => h))
  have SM1' : Hd (Sl (fun b => b < w.heap.size) W1 (.slice ma1 few.length mc1) (u8s few)) := hid (SM1.out.keep hk (fun _ _ _ h => h))
  clear HN H1 SM1
  have HN := HN'
  clear HN'
  have H1 := H1'
  clear H1'
  have SM1 := SM1'
  clear SM1'
  have HK : Hd (Keeps (fun _ => False) w W1) := hid hk
  have z_W1 := hk.size
  clear hk
  go_wp2_with fail
  refine (most_any _ _ l1 _ H1.out).mono ?_
  rw [HFE.out]
  rintro e wx ⟨ma2, mc2, rfl, hm2, rfl⟩
  have SM2 := hid hm2; clear hm2
  go_wp2_with fail
  refine (refCut_any (fun b => b < w.heap.size) _ few id n _ (SM2.out.mono (fun b h h2 => ⟨h2, h⟩)) HFB.out (by omega)).mono ?_
  rw [HA.out, HF.out]
  rintro e W2 ⟨ra, rn, rc, rfl, hrn, hrp, hk⟩
  subst hrn
  have SR := hid (hrp.sgs.mono (K' := fun _ => True) (fun _ _ _ => trivial))
  clear hrp
  have HN' : Hd (NibF W2) := hid (HN.out.keep hk (fun _ _ _ h => h))
  have H1' : Hd (Sl (fun b => b < w.heap.size) W2 v1 (u8s l1)) := hid (H1.out.keep hk (fun _ _ _ h => h))
  have SM1' : Hd (Sl (fun b => b < w.heap.size) W2 (.slice ma1 few.length mc1) (u8s few)) := hid (SM1.out.keep hk (fun _ _ _ h => h))
  have SL' : Hd (Sgs (fun _ => True) W2 (.slice la A.length lc) A) := hid (SL.out.keep hk (fun _ _ _ h => h))
  have SM2' : Hd (Sl (fun b => b < w.heap.size) W2 (.slice ma2 few.length mc2) (u8s few)) := hid (SM2.out.keep hk (fun _ _ _ h => h))
  clear HN H1 SM1 SL SM2
  have HN := HN'
  clear HN'
  have H1 := H1'
  clear H1'
  have SM1 := SM1'
  clear SM1'
  have SL := SL'
  clear SL'
  have SM2 := SM2'
  clear SM2'
  have HK' : Hd (Keeps (fun _ => False) w W2) := hid (HK.out.trans hk)
  clear HK
  have HK := HK'
  clear HK'
  have z_W2 := hk.size
  clear hk
  go_wp2_with fail
  refine (Around_any long 3 _ HLO.out.1 HLO.out.2 (by omega) (by omega)).mono ?_
  rintro e wx ⟨rfl, rfl⟩
  obtain ⟨d0, d1⟩ := around_b long (show (1 : Int) ≤ 3 by omega)
  generalize around long 3 = d at *
  obtain ⟨N, hN⟩ : ∃ N : Nat, (65535 : Int) + d = N := ⟨(65535 + d).toNat, by omega⟩
  have hN1 : 65535 ≤ N ∧ N ≤ 65537 := by omega
  have u1 : IntKind.i64.wrap (65535 + d) = (N : Int) := by rw [hN]; exact IntWalk.i64_in _ (by omega)
  have u2 : IntKind.i64.wrap (N : Int) = (N : Int) := IntWalk.i64_in _ (by omega)
  have hmku : ∀ w, (Instr.makeSlice 22 (.int .i64 (N : Int)) (.int .i64 (N : Int))).run Tryd.prog w = .ok (.slice (some ⟨w.heap.size, 0, none⟩) N N) (w.alloc (.cells (u8s (List.replicate N 0)).toArray 5)) := fun w => by rw [← made_u]; exact run_make_row' (P := Tryd.prog) 22 5 (.int .u8 0) 1 Tryd.underlying22 Cr.infoU8 rfl .i64 .i64 N (by omega) (by omega) w
  go_upto_region 4 with fail
  generalize hW : World.alloc W2 _ = W3
  have BZ : Hd (Blk W3 W2.heap.size (u8s (List.replicate N 0)).toArray 5) := hid (by rw [← hW]; exact blk_new _ _ _)
  have hk : Keeps (fun _ => False) W2 W3 := by rw [← hW]; exact keeps_alloc _ _ _
  clear hW hmku u1 u2
  have HN' : Hd (NibF W3) := hid (HN.out.keep hk (fun _ _ _ h => h))
  have H1' : Hd (Sl (fun b => b < w.heap.size) W3 v1 (u8s l1)) := hid (H1.out.keep hk (fun _ _ _ h => h))
  have SM1' : Hd (Sl (fun b => b < w.heap.size) W3 (.slice ma1 few.length mc1) (u8s few)) := hid (SM1.out.keep hk (fun _ _ _ h => h))
  have SL' : Hd (Sgs (fun _ => True) W3 (.slice la A.length lc) A) := hid (SL.out.keep hk (fun _ _ _ h => h))
  have SM2' : Hd (Sl (fun b => b < w.heap.size) W3 (.slice ma2 few.length mc2) (u8s few)) := hid (SM2.out.keep hk (fun _ _ _ h => h))
  have SR' : Hd (Sgs (fun _ => True) W3 (.slice ra A.length rc) A) := hid (SR.out.keep hk (fun _ _ _ h => h))
  clear HN H1 SM1 SL SM2 SR
  have HN := HN'
  clear HN'
  have H1 := H1'
  clear H1'
  have SM1 := SM1'
  clear SM1'
  have SL := SL'
  clear SL'
  have SM2 := SM2'
  clear SM2'
  have SR := SR'
  clear SR'
  have HK' : Hd (Keeps (fun _ => False) w W3) := hid (HK.out.trans hk)
  clear HK
  have HK := HK'
  clear HK'
  have z_W3 := hk.size
  clear hk
  have SZ : Hd (Sl (fun _ => True) W3 (.slice (some ⟨W2.heap.size, 0, none⟩) N N) (u8s (List.replicate N 0))) := hid (row_sl ((own_full BZ.out (by simp) (by unfold maxLen; omega)).row.mono (fun _ _ _ => trivial)) (by simp))
  clear BZ
  obtain ⟨zs, hzs⟩ : ∃ zs, List.replicate N 0 = zs := ⟨_, rfl⟩
  have hzl : zs.length = N := by rw [← hzs]; simp
  have HZB : Hd (∀ c ∈ zs, c < 256) := hid (by rw [← hzs]; intro c hc; have := List.eq_of_mem_replicate hc; omega)
  rw [hzs] at SZ
  obtain ⟨hz1, hz2⟩ := cut_zeros id zs (by omega)
  rw [hzl] at hz1 hz2
  have HZ1 := hid hz1; have HZ2 := hid hz2; have HZL := hid hzl
  clear hzs hz1 hz2 hzl hN
  obtain ⟨X, hX⟩ : ∃ X, cutL id zs 256 = X := ⟨_, rfl⟩
  obtain ⟨G, hG⟩ : ∃ G, fitsL zs 256 = G := ⟨_, rfl⟩
  rw [hX, hG] at HZ1 HZ2
  have HX := hid hX; have HG := hid hG; clear hX hG
  go_wp2_with fail
  refine (Cut_any _ zs id 256 _ HN.out (SZ.out.mono (fun b h _ => h)) HZB.out (by rw [HZL.out]; omega)).mono ?_
  rw [HX.out, HG.out]
  rintro e W4 ⟨xa, xn, xc, rfl, hxn, -, hk⟩
  subst hxn
  have HN' : Hd (NibF W4) := hid (HN.out.keep hk (fun _ _ _ h => h))
  have H1' : Hd (Sl (fun b => b < w.heap.size) W4 v1 (u8s l1)) := hid (H1.out.keep hk (fun _ _ _ h => h))
  have SM1' : Hd (Sl (fun b => b < w.heap.size) W4 (.slice ma1 few.length mc1) (u8s few)) := hid (SM1.out.keep hk (fun _ _ _ h => h))
  have SL' : Hd (Sgs (fun _ => True) W4 (.slice la A.length lc) A) := hid (SL.out.keep hk (fun _ _ _ h => h))
  have SM2' : Hd (Sl (fun b => b < w.heap.size) W4 (.slice ma2 few.length mc2) (u8s few)) := hid (SM2.out.keep hk (fun _ _ _ h => h))
  have SR' : Hd (Sgs (fun _ => True) W4 (.slice ra A.length rc) A) := hid (SR.out.keep hk (fun _ _ _ h => h))
  have SZ' : Hd (Sl (fun _ => True) W4 (.slice (some ⟨W2.heap.size, 0, none⟩) N N) (u8s zs)) := hid (SZ.out.keep hk (fun _ _ _ h => h))
  clear HN H1 SM1 SL SM2 SR SZ
  have HN := HN'
  clear HN'
  have H1 := H1'
  clear H1'
  have SM1 := SM1'
  clear SM1'
  have SL := SL'
  clear SL'
  have SM2 := SM2'
  clear SM2'
  have SR := SR'
  clear SR'
  have SZ := SZ'
  clear SZ'
  have HK' : Hd (Keeps (fun _ => False) w W4) := hid (HK.out.trans hk)
  clear HK
  have HK := HK'
  clear HK'
  have z_W4 := hk.size
  clear hk
  have hee : (F == F) = true := by simp
  rcases Nat.lt_or_ge 65536 N with hw | hw
  · have w1 : decide ((65536 : Int) < N) = true := by simp; omega
    obtain ⟨hx1, hx2⟩ := HZ2.out hw
    have hxl : X.length = 0 := by rw [hx1]; rfl
    have hG2 : (G == 2) = true := by rw [hx2]; rfl
    have hxl2 : ((X.length : Int) == 0) = true := by rw [hxl]; rfl
    have hxl3 : (X.length == 0) = true := by rw [hxl]; rfl
    clear hx1 hx2 hxl hw
    go_wp2_with fail
    refine (Same_any _ _ _ _ A _ SL.out SR.out HAB.out).mono ?_
    rintro e W5 ⟨rfl, hk⟩
    have HN' : Hd (NibF W5) := hid (HN.out.keep hk (fun _ _ _ h => h))
    have H1' : Hd (Sl (fun b => b < w.heap.size) W5 v1 (u8s l1)) := hid (H1.out.keep hk (fun _ _ _ h => h))
    have SM1' : Hd (Sl (fun b => b < w.heap.size) W5 (.slice ma1 few.length mc1) (u8s few)) := hid (SM1.out.keep hk (fun _ _ _ h => h))
    have SL' : Hd (Sgs (fun _ => True) W5 (.slice la A.length lc) A) := hid (SL.out.keep hk (fun _ _ _ h => h))
    have SM2' : Hd (Sl (fun b => b < w.heap.size) W5 (.slice ma2 few.length mc2) (u8s few)) := hid (SM2.out.keep hk (fun _ _ _ h => h))
    have SR' : Hd (Sgs (fun _ => True) W5 (.slice ra A.length rc) A) := hid (SR.out.keep hk (fun _ _ _ h => h))
    have SZ' : Hd (Sl (fun _ => True) W5 (.slice (some ⟨W2.heap.size, 0, none⟩) N N) (u8s zs)) := hid (SZ.out.keep hk (fun _ _ _ h => h))
    clear HN H1 SM1 SL SM2 SR SZ
    have HN := HN'
    clear HN'
    have H1 := H1'
    clear H1'
    have SM1 := SM1'
    clear SM1'
    have SL := SL'
    clear SL'
    have SM2 := SM2'
    clear SM2'
    have SR := SR'
    clear SR'
    have SZ := SZ'
    clear SZ'
    have HK' : Hd (Keeps (fun _ => False) w W5) := hid (HK.out.trans hk)
    clear HK
    have HK := HK'
    clear HK'
    have z_W5 := hk.size
    clear hk
    go_wp2_with fail
    refine (lives_any _ HN.out).mono ?_
    rintro e W6 ⟨rfl, hk⟩
    have HN' : Hd (NibF W6) := hid (HN.out.keep hk (fun _ _ _ h => h))
    have H1' : Hd (Sl (fun b => b < w.heap.size) W6 v1 (u8s l1)) := hid (H1.out.keep hk (fun _ _ _ h => h))
    have SM1' : Hd (Sl (fun b => b < w.heap.size) W6 (.slice ma1 few.length mc1) (u8s few)) := hid (SM1.out.keep hk (fun _ _ _ h => h))
    have SL' : Hd (Sgs (fun _ => True) W6 (.slice la A.length lc) A) := hid (SL.out.keep hk (fun _ _ _ h => h))
    have SM2' : Hd (Sl (fun b => b < w.heap.size) W6 (.slice ma2 few.length mc2) (u8s few)) := hid (SM2.out.keep hk (fun _ _ _ h => h))
    have SR' : Hd (Sgs (fun _ => True) W6 (.slice ra A.length rc) A) := hid (SR.out.keep hk (fun _ _ _ h => h))
    have SZ' : Hd (Sl (fun _ => True) W6 (.slice (some ⟨W2.heap.size, 0, none⟩) N N) (u8s zs)) := hid (SZ.out.keep hk (fun _ _ _ h => h))
    clear HN H1 SM1 SL SM2 SR SZ
    have HN := HN'
    clear HN'
    have H1 := H1'
    clear H1'
    have SM1 := SM1'
    clear SM1'
    have SL := SL'
    clear SL'
    have SM2 := SM2'
    clear SM2'
    have SR := SR'
    clear SR'
    have SZ := SZ'
    clear SZ'
    have HK' : Hd (Keeps (fun _ => False) w W6) := hid (HK.out.trans hk)
    clear HK
    have HK := HK'
    clear HK'
    have z_W6 := hk.size
    clear hk
    go_wp2
    go_ret
    exact ⟨rfl, HK.out⟩
  · have w1 : decide ((65536 : Int) < N) = false := by simp; omega
    obtain ⟨hx1, hx2⟩ := HZ1.out hw
    have hG2 : (G == 2) = false := by rw [hx2]; rfl
    have hxl2 : ((X.length : Int) == 0) = false := by rw [hx1]; rfl
    have hxl3 : ((X.length : Int) == 256) = true := by rw [hx1]; rfl
    have hxl4 : (X.length == 0) = false := by rw [hx1]; rfl
    have hxl5 : (X.length == 256) = true := by rw [hx1]; rfl
    clear hx1 hx2 hw
    go_wp2_with fail
    refine (Same_any _ _ _ _ A _ SL.out SR.out HAB.out).mono ?_
    rintro e W5 ⟨rfl, hk⟩
    have HN' : Hd (NibF W5) := hid (HN.out.keep hk (fun _ _ _ h => h))
    have H1' : Hd (Sl (fun b => b < w.heap.size) W5 v1 (u8s l1)) := hid (H1.out.keep hk (fun _ _ _ h => h))
    have SM1' : Hd (Sl (fun b => b < w.heap.size) W5 (.slice ma1 few.length mc1) (u8s few)) := hid (SM1.out.keep hk (fun _ _ _ h => h))
    have SL' : Hd (Sgs (fun _ => True) W5 (.slice la A.length lc) A) := hid (SL.out.keep hk (fun _ _ _ h => h))
    have SM2' : Hd (Sl (fun b => b < w.heap.size) W5 (.slice ma2 few.length mc2) (u8s few)) := hid (SM2.out.keep hk (fun _ _ _ h => h))
    have SR' : Hd (Sgs (fun _ => True) W5 (.slice ra A.length rc) A) := hid (SR.out.keep hk (fun _ _ _ h => h))
    have SZ' : Hd (Sl (fun _ => True) W5 (.slice (some ⟨W2.heap.size, 0, none⟩) N N) (u8s zs)) := hid (SZ.out.keep hk (fun _ _ _ h => h))
    clear HN H1 SM1 SL SM2 SR SZ
    have HN := HN'
    clear HN'
    have H1 := H1'
    clear H1'
    have SM1 := SM1'
    clear SM1'
    have SL := SL'
    clear SL'
    have SM2 := SM2'
    clear SM2'
    have SR := SR'
    clear SR'
    have SZ := SZ'
    clear SZ'
    have HK' : Hd (Keeps (fun _ => False) w W5) := hid (HK.out.trans hk)
    clear HK
    have HK := HK'
    clear HK'
    have z_W5 := hk.size
    clear hk
    go_wp2_with fail
    refine (lives_any _ HN.out).mono ?_
    rintro e W6 ⟨rfl, hk⟩
    have HN' : Hd (NibF W6) := hid (HN.out.keep hk (fun _ _ _ h => h))
    have H1' : Hd (Sl (fun b => b < w.heap.size) W6 v1 (u8s l1)) := hid (H1.out.keep hk (fun _ _ _ h => h))
    have SM1' : Hd (Sl (fun b => b < w.heap.size) W6 (.slice ma1 few.length mc1) (u8s few)) := hid (SM1.out.keep hk (fun _ _ _ h => h))
    have SL' : Hd (Sgs (fun _ => True) W6 (.slice la A.length lc) A) := hid (SL.out.keep hk (fun _ _ _ h => h))
    have SM2' : Hd (Sl (fun b => b < w.heap.size) W6 (.slice ma2 few.length mc2) (u8s few)) := hid (SM2.out.keep hk (fun _ _ _ h => h))
    have SR' : Hd (Sgs (fun _ => True) W6 (.slice ra A.length rc) A) := hid (SR.out.keep hk (fun _ _ _ h => h))
    have SZ' : Hd (Sl (fun _ => True) W6 (.slice (some ⟨W2.heap.size, 0, none⟩) N N) (u8s zs)) := hid (SZ.out.keep hk (fun _ _ _ h => h))
    clear HN H1 SM1 SL SM2 SR SZ
    have HN := HN'
    clear HN'
    have H1 := H1'
    clear H1'
    have SM1 := SM1'
    clear SM1'
    have SL := SL'
    clear SL'
    have SM2 := SM2'
    clear SM2'
    have SR := SR'
    clear SR'
    have SZ := SZ'
    clear SZ'
    have HK' : Hd (Keeps (fun _ => False) w W6) := hid (HK.out.trans hk)
    clear HK
    have HK := HK'
    clear HK'
    have z_W6 := hk.size
    clear hk
    go_wp2
    go_ret
    exact ⟨rfl, HK.out⟩
set_option maxRecDepth 100000 in set_option maxHeartbeats 1000000 in
theorem answers_any (v1 v2 : Value) (l1 : List Nat) (gs : List (Int × Int)) (id n : Int) (w : World) (hN : Cr.Nib w) (h1 : Sl (fun b => b < w.heap.size) w v1 (u8s l1)) (hl1 : ∀ c ∈ l1, c < 256) (h2 : Gps (fun b => b < w.heap.size) w v2 gs) (hn : -9223372036854775808 ≤ n ∧ n ≤ 9223372036854775807) :
    Calls Tryd.prog 4 #[.int .i64 id, v1, v2, .int .i64 n] w fun e w' => e = .returned (.bool true) ∧ Keeps (fun _ => False) w w' := by
  obtain ⟨ig, zg, hig, hg0, hg1, hg2, hg3⟩ := gp_parts
  have HN : Hd (NibF w) := hid hN
  have hpos := HN.out.pos
  have H1 := hid h1
  obtain ⟨few, hfew⟩ : ∃ few, l1.take 700 = few := ⟨_, rfl⟩
  have HFB : Hd (∀ c ∈ few, c < 256) := hid (by rw [← hfew]; exact fun c hc => hl1 c (List.mem_of_mem_take hc))
  have hfl : few.length ≤ 700 := by rw [← hfew, List.length_take]; omega
  have HFE := hid hfew
  have HLO := hid hn
  obtain ⟨ag, cg, rfl, hgc, hgm, _⟩ := Row.form h2
  unfold maxLen at hgm
  have hrow : Row (fun b => b < w.heap.size) w 2 (.slice ag gs.length cg) gs.length (gpX gs) := h2
  clear hN h1 hl1 hfew hn h2
  obtain ⟨gw, hgw⟩ : ∃ gw, gs.take 8 = gw := ⟨_, rfl⟩
  have hgl : gw.length ≤ 8 := by rw [← hgw, List.length_take]; omega
  have hgx : ∀ u, gpX (gs.take u) = (gpX gs).take (u * 2) := gpX_take gs
  go_enter Tryd.func4, Tryd.ntmps4
  rcases (show 8 < gs.length ∨ gs.length = 8 ∨ gs.length < 8 by omega) with hc | hc | hc
  · obtain ⟨a2, c2, hcut, hr2⟩ := run_cut_to (P := Tryd.prog) (t := 32) Tryd.underlying32 hig hg1 hrow (hh := 8) 8 rfl (by omega)
    have hl8 : gw.length = 8 := by rw [← hgw, List.length_take]; omega
    have SG : Hd (Gps (fun b => b < w.heap.size) w (.slice a2 8 c2) gw) := hid (by unfold Gps; rw [← hgw, hgx 8, show (gs.take 8).length = 8 by rw [List.length_take]; omega]; exact hr2)
    have h8 : (8 : Int) < gs.length := by omega
    generalize gs.length = m at *
    clear hr2 hrow hgx hgw hl8
    clear hc
    obtain ⟨An, hA⟩ : ∃ A, answerL id few gw n = A := ⟨_, rfl⟩
    have HAn := hid hA
    have HBAn : Hd (∀ x ∈ An, ∀ c ∈ x.d, c < 256) := hid (by rw [← hA]; exact answerL_b HFB.out)
    clear hA
    go_wp2_with fail
    refine (most_any _ _ l1 _ H1.out).mono ?_
    rw [HFE.out]
    rintro e wx ⟨ma1, mc1, rfl, hm1, rfl⟩
    have SM1 := hid hm1; clear hm1
    go_wp2_with fail
    refine (Answer_any _ _ few gw id n _ HN.out (SM1.out.mono (fun b h _ => h)) HFB.out (Row.mono SG.out (fun b h _ => h)) (by omega) (by omega)).mono ?_
    rw [HAn.out]
    rintro e W1 ⟨la1, ln, lc1, rfl, hln, hlp, hk⟩
    subst hln
    have S1 := hid (hlp.sgs.mono (K' := fun _ => True) (fun _ _ _ => trivial))
    clear hlp
    have HN' : Hd (NibF W1) := hid (HN.out.keep hk (fun _ _ _ h => h))
    have H1' : Hd (Sl (fun b => b < w.heap.size) W1 v1 (u8s l1)) := hid (H1.out.keep hk (fun _ _ _ h => h))
    have SG' : Hd (Gps (fun b => b < w.heap.size) W1 (.slice a2 8 c2) gw) := hid (SG.out.keep hk (fun _ _ _ h => h))
    have SM1' : Hd (Sl (fun b => b < w.heap.size) W1 (.slice ma1 few.length mc1) (u8s few)) := hid (SM1.out.keep hk (fun _ _ _ h => h))
    clear HN H1 SG SM1
    have HN := HN'
    clear HN'
    have H1 := H1'
    clear H1'
    have SG := SG'
    clear SG'
    have SM1 := SM1'
    clear SM1'
    have HK : Hd (Keeps (fun _ => False) w W1) := hid hk
    have z_W1 := hk.size
    clear hk
    go_wp2_with fail
    refine (most_any _ _ l1 _ H1.out).mono ?_
    rw [HFE.out]
    rintro e wx ⟨ma2, mc2, rfl, hm2, rfl⟩
    have SM2 := hid hm2; clear hm2
    go_wp2_with fail
    refine (refAnswer_any (fun b => b < w.heap.size) _ _ few gw id n _ (fun k h => by have := HK.out.size; omega) (SM2.out.mono (fun b h h2 => ⟨h2, h⟩)) HFB.out (Row.mono SG.out (fun b h _ => h)) (by omega) (by omega)).mono ?_
    rw [HAn.out]
    rintro e W2 ⟨la2, ln, lc2, rfl, hln, hlp, hk⟩
    subst hln
    have S2 := hid (hlp.sgs.mono (K' := fun _ => True) (fun _ _ _ => trivial))
    clear hlp
    have HN' : Hd (NibF W2) := hid (HN.out.keep hk (fun _ _ _ h => h))
    have H1' : Hd (Sl (fun b => b < w.heap.size) W2 v1 (u8s l1)) := hid (H1.out.keep hk (fun _ _ _ h => h))
    have SG' : Hd (Gps (fun b => b < w.heap.size) W2 (.slice a2 8 c2) gw) := hid (SG.out.keep hk (fun _ _ _ h => h))
    have SM1' : Hd (Sl (fun b => b < w.heap.size) W2 (.slice ma1 few.length mc1) (u8s few)) := hid (SM1.out.keep hk (fun _ _ _ h => h))
    have S1' : Hd (Sgs (fun _ => True) W2 (.slice la1 An.length lc1) An) := hid (S1.out.keep hk (fun _ _ _ h => h))
    have SM2' : Hd (Sl (fun b => b < w.heap.size) W2 (.slice ma2 few.length mc2) (u8s few)) := hid (SM2.out.keep hk (fun _ _ _ h => h))
    clear HN H1 SG SM1 S1 SM2
    have HN := HN'
    clear HN'
    have H1 := H1'
    clear H1'
    have SG := SG'
    clear SG'
    have SM1 := SM1'
    clear SM1'
    have S1 := S1'
    clear S1'
    have SM2 := SM2'
    clear SM2'
    have HK' : Hd (Keeps (fun _ => False) w W2) := hid (HK.out.trans hk)
    clear HK
    have HK := HK'
    clear HK'
    have z_W2 := hk.size
    clear hk
    go_wp2_with fail
    refine (Same_any _ _ _ _ An _ S1.out S2.out HBAn.out).mono ?_
    rintro e W3 ⟨rfl, hk⟩
    have HN' : Hd (NibF W3) := hid (HN.out.keep hk (fun _ _ _ h => h))
    have H1' : Hd (Sl (fun b => b < w.heap.size) W3 v1 (u8s l1)) := hid (H1.out.keep hk (fun _ _ _ h => h))
    have SG' : Hd (Gps (fun b => b < w.heap.size) W3 (.slice a2 8 c2) gw) := hid (SG.out.keep hk (fun _ _ _ h => h))
    have SM1' : Hd (Sl (fun b => b < w.heap.size) W3 (.slice ma1 few.length mc1) (u8s few)) := hid (SM1.out.keep hk (fun _ _ _ h => h))
    have S1' : Hd (Sgs (fun _ => True) W3 (.slice la1 An.length lc1) An) := hid (S1.out.keep hk (fun _ _ _ h => h))
    have SM2' : Hd (Sl (fun b => b < w.heap.size) W3 (.slice ma2 few.length mc2) (u8s few)) := hid (SM2.out.keep hk (fun _ _ _ h => h))
    have S2' : Hd (Sgs (fun _ => True) W3 (.slice la2 An.length lc2) An) := hid (S2.out.keep hk (fun _ _ _ h => h))
    clear HN H1 SG SM1 S1 SM2 S2
    have HN := HN'
    clear HN'
    have H1 := H1'
    clear H1'
    have SG := SG'
    clear SG'
    have SM1 := SM1'
    clear SM1'
    have S1 := S1'
    clear S1'
    have SM2 := SM2'
    clear SM2'
    have S2 := S2'
    clear S2'
    have HK' : Hd (Keeps (fun _ => False) w W3) := hid (HK.out.trans hk)
    clear HK
    have HK := HK'
    clear HK'
    have z_W3 := hk.size
    clear hk
    clear S2
    clear S1
    clear SM2
    clear SM1
    obtain ⟨d0, d1⟩ := around_b n (show (1 : Int) ≤ 256 by omega)
    obtain ⟨z, hz⟩ : ∃ z, 1 + around n 256 = z := ⟨_, rfl⟩
    have HZ := hid hz
    clear hz d0 d1
    obtain ⟨Az, hA⟩ : ∃ A, answerL id few gw z = A := ⟨_, rfl⟩
    have HAz := hid hA
    have HBAz : Hd (∀ x ∈ Az, ∀ c ∈ x.d, c < 256) := hid (by rw [← hA]; exact answerL_b HFB.out)
    clear hA
    go_wp2_with fail
    refine (most_any _ _ l1 _ H1.out).mono ?_
    rw [HFE.out]
    rintro e wx ⟨ma3, mc3, rfl, hm3, rfl⟩
    have SM3 := hid hm3; clear hm3
    go_wp2_with fail
    refine (size_any n _ HLO.out.1 HLO.out.2).mono ?_
    rw [HZ.out]
    rintro e wx ⟨rfl, rfl⟩
    go_wp2_with fail
    refine (Answer_any _ _ few gw id z _ HN.out (SM3.out.mono (fun b h _ => h)) HFB.out (Row.mono SG.out (fun b h _ => h)) (by omega) (by omega)).mono ?_
    rw [HAz.out]
    rintro e W4 ⟨la3, ln, lc3, rfl, hln, hlp, hk⟩
    subst hln
    have S3 := hid (hlp.sgs.mono (K' := fun _ => True) (fun _ _ _ => trivial))
    clear hlp
    have HN' : Hd (NibF W4) := hid (HN.out.keep hk (fun _ _ _ h => h))
    have H1' : Hd (Sl (fun b => b < w.heap.size) W4 v1 (u8s l1)) := hid (H1.out.keep hk (fun _ _ _ h => h))
    have SG' : Hd (Gps (fun b => b < w.heap.size) W4 (.slice a2 8 c2) gw) := hid (SG.out.keep hk (fun _ _ _ h => h))
    have SM3' : Hd (Sl (fun b => b < w.heap.size) W4 (.slice ma3 few.length mc3) (u8s few)) := hid (SM3.out.keep hk (fun _ _ _ h => h))
    clear HN H1 SG SM3
    have HN := HN'
    clear HN'
    have H1 := H1'
    clear H1'
    have SG := SG'
    clear SG'
    have SM3 := SM3'
    clear SM3'
    have HK' : Hd (Keeps (fun _ => False) w W4) := hid (HK.out.trans hk)
    clear HK
    have HK := HK'
    clear HK'
    have z_W4 := hk.size
    clear hk
    go_wp2_with fail
    refine (most_any _ _ l1 _ H1.out).mono ?_
    rw [HFE.out]
    rintro e wx ⟨ma4, mc4, rfl, hm4, rfl⟩
    have SM4 := hid hm4; clear hm4
    go_wp2_with fail
    refine (size_any n _ HLO.out.1 HLO.out.2).mono ?_
    rw [HZ.out]
    rintro e wx ⟨rfl, rfl⟩
    go_wp2_with fail
    refine (refAnswer_any (fun b => b < w.heap.size) _ _ few gw id z _ (fun k h => by have := HK.out.size; omega) (SM4.out.mono (fun b h h2 => ⟨h2, h⟩)) HFB.out (Row.mono SG.out (fun b h _ => h)) (by omega) (by omega)).mono ?_
    rw [HAz.out]
    rintro e W5 ⟨la4, ln, lc4, rfl, hln, hlp, hk⟩
    subst hln
    have S4 := hid (hlp.sgs.mono (K' := fun _ => True) (fun _ _ _ => trivial))
    clear hlp
    have HN' : Hd (NibF W5) := hid (HN.out.keep hk (fun _ _ _ h => h))
    have H1' : Hd (Sl (fun b => b < w.heap.size) W5 v1 (u8s l1)) := hid (H1.out.keep hk (fun _ _ _ h => h))
    have SG' : Hd (Gps (fun b => b < w.heap.size) W5 (.slice a2 8 c2) gw) := hid (SG.out.keep hk (fun _ _ _ h => h))
    have SM3' : Hd (Sl (fun b => b < w.heap.size) W5 (.slice ma3 few.length mc3) (u8s few)) := hid (SM3.out.keep hk (fun _ _ _ h => h))
    have S3' : Hd (Sgs (fun _ => True) W5 (.slice la3 Az.length lc3) Az) := hid (S3.out.keep hk (fun _ _ _ h => h))
    have SM4' : Hd (Sl (fun b => b < w.heap.size) W5 (.slice ma4 few.length mc4) (u8s few)) := hid (SM4.out.keep hk (fun _ _ _ h => h))
    clear HN H1 SG SM3 S3 SM4
    have HN := HN'
    clear HN'
    have H1 := H1'
    clear H1'
    have SG := SG'
    clear SG'
    have SM3 := SM3'
    clear SM3'
    have S3 := S3'
    clear S3'
    have SM4 := SM4'
    clear SM4'
    have HK' : Hd (Keeps (fun _ => False) w W5) := hid (HK.out.trans hk)
    clear HK
    have HK := HK'
    clear HK'
    have z_W5 := hk.size
    clear hk
    go_wp2_with fail
    refine (Same_any _ _ _ _ Az _ S3.out S4.out HBAz.out).mono ?_
    rintro e W6 ⟨rfl, hk⟩
    have HN' : Hd (NibF W6) := hid (HN.out.keep hk (fun _ _ _ h => h))
    have H1' : Hd (Sl (fun b => b < w.heap.size) W6 v1 (u8s l1)) := hid (H1.out.keep hk (fun _ _ _ h => h))
    have SG' : Hd (Gps (fun b => b < w.heap.size) W6 (.slice a2 8 c2) gw) := hid (SG.out.keep hk (fun _ _ _ h => h))
    have SM3' : Hd (Sl (fun b => b < w.heap.size) W6 (.slice ma3 few.length mc3) (u8s few)) := hid (SM3.out.keep hk (fun _ _ _ h => h))
    have S3' : Hd (Sgs (fun _ => True) W6 (.slice la3 Az.length lc3) Az) := hid (S3.out.keep hk (fun _ _ _ h => h))
    have SM4' : Hd (Sl (fun b => b < w.heap.size) W6 (.slice ma4 few.length mc4) (u8s few)) := hid (SM4.out.keep hk (fun _ _ _ h => h))
    have S4' : Hd (Sgs (fun _ => True) W6 (.slice la4 Az.length lc4) Az) := hid (S4.out.keep hk (fun _ _ _ h => h))
    clear HN H1 SG SM3 S3 SM4 S4
    have HN := HN'
    clear HN'
    have H1 := H1'
    clear H1'
    have SG := SG'
    clear SG'
    have SM3 := SM3'
    clear SM3'
    have S3 := S3'
    clear S3'
    have SM4 := SM4'
    clear SM4'
    have S4 := S4'
    clear S4'
    have HK' : Hd (Keeps (fun _ => False) w W6) := hid (HK.out.trans hk)
    clear HK
    have HK := HK'
    clear HK'
    have z_W6 := hk.size
    clear hk
    clear S4
    clear S3
    clear SM4
    clear SM3
    go_wp2_with fail
    refine (lives_any _ HN.out).mono ?_
    rintro e W7 ⟨rfl, hk⟩
    have HN' : Hd (NibF W7) := hid (HN.out.keep hk (fun _ _ _ h => h))
    have H1' : Hd (Sl (fun b => b < w.heap.size) W7 v1 (u8s l1)) := hid (H1.out.keep hk (fun _ _ _ h => h))
    have SG' : Hd (Gps (fun b => b < w.heap.size) W7 (.slice a2 8 c2) gw) := hid (SG.out.keep hk (fun _ _ _ h => h))
    clear HN H1 SG
    have HN := HN'
    clear HN'
    have H1 := H1'
    clear H1'
    have SG := SG'
    clear SG'
    have HK' : Hd (Keeps (fun _ => False) w W7) := hid (HK.out.trans hk)
    clear HK
    have HK := HK'
    clear HK'
    have z_W7 := hk.size
    clear hk
    go_wp2
    go_ret
    exact ⟨rfl, HK.out⟩
  · have SG : Hd (Gps (fun b => b < w.heap.size) w (.slice ag 8 cg) gw) := hid (by unfold Gps; rw [← hgw, List.take_of_length_le (by omega), ← hc]; exact hrow)
    generalize gs.length = m at *
    subst hc
    clear hrow hgx hgw
    obtain ⟨An, hA⟩ : ∃ A, answerL id few gw n = A := ⟨_, rfl⟩
    have HAn := hid hA
    have HBAn : Hd (∀ x ∈ An, ∀ c ∈ x.d, c < 256) := hid (by rw [← hA]; exact answerL_b HFB.out)
    clear hA
    go_wp2_with fail
    refine (most_any _ _ l1 _ H1.out).mono ?_
    rw [HFE.out]
    rintro e wx ⟨ma1, mc1, rfl, hm1, rfl⟩
    have SM1 := hid hm1; clear hm1
    go_wp2_with fail
    refine (Answer_any _ _ few gw id n _ HN.out (SM1.out.mono (fun b h _ => h)) HFB.out (Row.mono SG.out (fun b h _ => h)) (by omega) (by omega)).mono ?_
    rw [HAn.out]
    rintro e W1 ⟨la1, ln, lc1, rfl, hln, hlp, hk⟩
    subst hln
    have S1 := hid (hlp.sgs.mono (K' := fun _ => True) (fun _ _ _ => trivial))
    clear hlp
    have HN' : Hd (NibF W1) := hid (HN.out.keep hk (fun _ _ _ h => h))
    have H1' : Hd (Sl (fun b => b < w.heap.size) W1 v1 (u8s l1)) := hid (H1.out.keep hk (fun _ _ _ h => h))
    have SG' : Hd (Gps (fun b => b < w.heap.size) W1 (.slice ag 8 cg) gw) := hid (SG.out.keep hk (fun _ _ _ h => h))
    have SM1' : Hd (Sl (fun b => b < w.heap.size) W1 (.slice ma1 few.length mc1) (u8s few)) := hid (SM1.out.keep hk (fun _ _ _ h => h))
    clear HN H1 SG SM1
    have HN := HN'
    clear HN'
    have H1 := H1'
    clear H1'
    have SG := SG'
    clear SG'
    have SM1 := SM1'
    clear SM1'
    have HK : Hd (Keeps (fun _ => False) w W1) := hid hk
    have z_W1 := hk.size
    clear hk
    go_wp2_with fail
    refine (most_any _ _ l1 _ H1.out).mono ?_
    rw [HFE.out]
    rintro e wx ⟨ma2, mc2, rfl, hm2, rfl⟩
    have SM2 := hid hm2; clear hm2
    go_wp2_with fail
    refine (refAnswer_any (fun b => b < w.heap.size) _ _ few gw id n _ (fun k h => by have := HK.out.size; omega) (SM2.out.mono (fun b h h2 => ⟨h2, h⟩)) HFB.out (Row.mono SG.out (fun b h _ => h)) (by omega) (by omega)).mono ?_
    rw [HAn.out]
    rintro e W2 ⟨la2, ln, lc2, rfl, hln, hlp, hk⟩
    subst hln
    have S2 := hid (hlp.sgs.mono (K' := fun _ => True) (fun _ _ _ => trivial))
    clear hlp
    have HN' : Hd (NibF W2) := hid (HN.out.keep hk (fun _ _ _ h => h))
    have H1' : Hd (Sl (fun b => b < w.heap.size) W2 v1 (u8s l1)) := hid (H1.out.keep hk (fun _ _ _ h => h))
    have SG' : Hd (Gps (fun b => b < w.heap.size) W2 (.slice ag 8 cg) gw) := hid (SG.out.keep hk (fun _ _ _ h => h))
    have SM1' : Hd (Sl (fun b => b < w.heap.size) W2 (.slice ma1 few.length mc1) (u8s few)) := hid (SM1.out.keep hk (fun _ _ _ h => h))
    have S1' : Hd (Sgs (fun _ => True) W2 (.slice la1 An.length lc1) An) := hid (S1.out.keep hk (fun _ _ _ h => h))
    have SM2' : Hd (Sl (fun b => b < w.heap.size) W2 (.slice ma2 few.length mc2) (u8s few)) := hid (SM2.out.keep hk (fun _ _ _ h => h))
    clear HN H1 SG SM1 S1 SM2
    have HN := HN'
    clear HN'
    have H1 := H1'
    clear H1'
    have SG := SG'
    clear SG'
    have SM1 := SM1'
    clear SM1'
    have S1 := S1'
    clear S1'
    have SM2 := SM2'
    clear SM2'
    have HK' : Hd (Keeps (fun _ => False) w W2) := hid (HK.out.trans hk)
    clear HK
    have HK := HK'
    clear HK'
    have z_W2 := hk.size
    clear hk
    go_wp2_with fail
    refine (Same_any _ _ _ _ An _ S1.out S2.out HBAn.out).mono ?_
    rintro e W3 ⟨rfl, hk⟩
    have HN' : Hd (NibF W3) := hid (HN.out.keep hk (fun _ _ _ h => h))
    have H1' : Hd (Sl (fun b => b < w.heap.size) W3 v1 (u8s l1)) := hid (H1.out.keep hk (fun _ _ _ h => h))
    have SG' : Hd (Gps (fun b => b < w.heap.size) W3 (.slice ag 8 cg) gw) := hid (SG.out.keep hk (fun _ _ _ h => h))
    have SM1' : Hd (Sl (fun b => b < w.heap.size) W3 (.slice ma1 few.length mc1) (u8s few)) := hid (SM1.out.keep hk (fun _ _ _ h => h))
    have S1' : Hd (Sgs (fun _ => True) W3 (.slice la1 An.length lc1) An) := hid (S1.out.keep hk (fun _ _ _ h => h))
    have SM2' : Hd (Sl (fun b => b < w.heap.size) W3 (.slice ma2 few.length mc2) (u8s few)) := hid (SM2.out.keep hk (fun _ _ _ h => h))
    have S2' : Hd (Sgs (fun _ => True) W3 (.slice la2 An.length lc2) An) := hid (S2.out.keep hk (fun _ _ _ h => h))
    clear HN H1 SG SM1 S1 SM2 S2
    have HN := HN'
    clear HN'
    have H1 := H1'
    clear H1'
    have SG := SG'
    clear SG'
    have SM1 := SM1'
    clear SM1'
    have S1 := S1'
    clear S1'
    have SM2 := SM2'
    clear SM2'
    have S2 := S2'
    clear S2'
    have HK' : Hd (Keeps (fun _ => False) w W3) := hid (HK.out.trans hk)
    clear HK
    have HK := HK'
    clear HK'
    have z_W3 := hk.size
    clear hk
    clear S2
    clear S1
    clear SM2
    clear SM1
    obtain ⟨d0, d1⟩ := around_b n (show (1 : Int) ≤ 256 by omega)
    obtain ⟨z, hz⟩ : ∃ z, 1 + around n 256 = z := ⟨_, rfl⟩
    have HZ := hid hz
    clear hz d0 d1
    obtain ⟨Az, hA⟩ : ∃ A, answerL id few gw z = A := ⟨_, rfl⟩
    have HAz := hid hA
    have HBAz : Hd (∀ x ∈ Az, ∀ c ∈ x.d, c < 256) := hid (by rw [← hA]; exact answerL_b HFB.out)
    clear hA
    go_wp2_with fail
    refine (most_any _ _ l1 _ H1.out).mono ?_
    rw [HFE.out]
    rintro e wx ⟨ma3, mc3, rfl, hm3, rfl⟩
    have SM3 := hid hm3; clear hm3
    go_wp2_with fail
    refine (size_any n _ HLO.out.1 HLO.out.2).mono ?_
    rw [HZ.out]
    rintro e wx ⟨rfl, rfl⟩
    go_wp2_with fail
    refine (Answer_any _ _ few gw id z _ HN.out (SM3.out.mono (fun b h _ => h)) HFB.out (Row.mono SG.out (fun b h _ => h)) (by omega) (by omega)).mono ?_
    rw [HAz.out]
    rintro e W4 ⟨la3, ln, lc3, rfl, hln, hlp, hk⟩
    subst hln
    have S3 := hid (hlp.sgs.mono (K' := fun _ => True) (fun _ _ _ => trivial))
    clear hlp
    have HN' : Hd (NibF W4) := hid (HN.out.keep hk (fun _ _ _ h => h))
    have H1' : Hd (Sl (fun b => b < w.heap.size) W4 v1 (u8s l1)) := hid (H1.out.keep hk (fun _ _ _ h => h))
    have SG' : Hd (Gps (fun b => b < w.heap.size) W4 (.slice ag 8 cg) gw) := hid (SG.out.keep hk (fun _ _ _ h => h))
    have SM3' : Hd (Sl (fun b => b < w.heap.size) W4 (.slice ma3 few.length mc3) (u8s few)) := hid (SM3.out.keep hk (fun _ _ _ h => h))
    clear HN H1 SG SM3
    have HN := HN'
    clear HN'
    have H1 := H1'
    clear H1'
    have SG := SG'
    clear SG'
    have SM3 := SM3'
    clear SM3'
    have HK' : Hd (Keeps (fun _ => False) w W4) := hid (HK.out.trans hk)
    clear HK
    have HK := HK'
    clear HK'
    have z_W4 := hk.size
    clear hk
    go_wp2_with fail
    refine (most_any _ _ l1 _ H1.out).mono ?_
    rw [HFE.out]
    rintro e wx ⟨ma4, mc4, rfl, hm4, rfl⟩
    have SM4 := hid hm4; clear hm4
    go_wp2_with fail
    refine (size_any n _ HLO.out.1 HLO.out.2).mono ?_
    rw [HZ.out]
    rintro e wx ⟨rfl, rfl⟩
    go_wp2_with fail
    refine (refAnswer_any (fun b => b < w.heap.size) _ _ few gw id z _ (fun k h => by have := HK.out.size; omega) (SM4.out.mono (fun b h h2 => ⟨h2, h⟩)) HFB.out (Row.mono SG.out (fun b h _ => h)) (by omega) (by omega)).mono ?_
    rw [HAz.out]
    rintro e W5 ⟨la4, ln, lc4, rfl, hln, hlp, hk⟩
    subst hln
    have S4 := hid (hlp.sgs.mono (K' := fun _ => True) (fun _ _ _ => trivial))
    clear hlp
    have HN' : Hd (NibF W5) := hid (HN.out.keep hk (fun _ _ _ h => h))
    have H1' : Hd (Sl (fun b => b < w.heap.size) W5 v1 (u8s l1)) := hid (H1.out.keep hk (fun _ _ _ h => h))
    have SG' : Hd (Gps (fun b => b < w.heap.size) W5 (.slice ag 8 cg) gw) := hid (SG.out.keep hk (fun _ _ _ h => h))
    have SM3' : Hd (Sl (fun b => b < w.heap.size) W5 (.slice ma3 few.length mc3) (u8s few)) := hid (SM3.out.keep hk (fun _ _ _ h => h))
    have S3' : Hd (Sgs (fun _ => True) W5 (.slice la3 Az.length lc3) Az) := hid (S3.out.keep hk (fun _ _ _ h => h))
    have SM4' : Hd (Sl (fun b => b < w.heap.size) W5 (.slice ma4 few.length mc4) (u8s few)) := hid (SM4.out.keep hk (fun _ _ _ h => h))
    clear HN H1 SG SM3 S3 SM4
    have HN := HN'
    clear HN'
    have H1 := H1'
    clear H1'
    have SG := SG'
    clear SG'
    have SM3 := SM3'
    clear SM3'
    have S3 := S3'
    clear S3'
    have SM4 := SM4'
    clear SM4'
    have HK' : Hd (Keeps (fun _ => False) w W5) := hid (HK.out.trans hk)
    clear HK
    have HK := HK'
    clear HK'
    have z_W5 := hk.size
    clear hk
    go_wp2_with fail
    refine (Same_any _ _ _ _ Az _ S3.out S4.out HBAz.out).mono ?_
    rintro e W6 ⟨rfl, hk⟩
    have HN' : Hd (NibF W6) := hid (HN.out.keep hk (fun _ _ _ h => h))
    have H1' : Hd (Sl (fun b => b < w.heap.size) W6 v1 (u8s l1)) := hid (H1.out.keep hk (fun _ _ _ h => h))
    have SG' : Hd (Gps (fun b => b < w.heap.size) W6 (.slice ag 8 cg) gw) := hid (SG.out.keep hk (fun _ _ _ h => h))
    have SM3' : Hd (Sl (fun b => b < w.heap.size) W6 (.slice ma3 few.length mc3) (u8s few)) := hid (SM3.out.keep hk (fun _ _ _ h => h))
    have S3' : Hd (Sgs (fun _ => True) W6 (.slice la3 Az.length lc3) Az) := hid (S3.out.keep hk (fun _ _ _ h => h))
    have SM4' : Hd (Sl (fun b => b < w.heap.size) W6 (.slice ma4 few.length mc4) (u8s few)) := hid (SM4.out.keep hk (fun _ _ _ h => h))
    have S4' : Hd (Sgs (fun _ => True) W6 (.slice la4 Az.length lc4) Az) := hid (S4.out.keep hk (fun _ _ _ h => h))
    clear HN H1 SG SM3 S3 SM4 S4
    have HN := HN'
    clear HN'
    have H1 := H1'
    clear H1'
    have SG := SG'
    clear SG'
    have SM3 := SM3'
    clear SM3'
    have S3 := S3'
    clear S3'
    have SM4 := SM4'
    clear SM4'
    have S4 := S4'
    clear S4'
    have HK' : Hd (Keeps (fun _ => False) w W6) := hid (HK.out.trans hk)
    clear HK
    have HK := HK'
    clear HK'
    have z_W6 := hk.size
    clear hk
    clear S4
    clear S3
    clear SM4
    clear SM3
    go_wp2_with fail
    refine (lives_any _ HN.out).mono ?_
    rintro e W7 ⟨rfl, hk⟩
    have HN' : Hd (NibF W7) := hid (HN.out.keep hk (fun _ _ _ h => h))
    have H1' : Hd (Sl (fun b => b < w.heap.size) W7 v1 (u8s l1)) := hid (H1.out.keep hk (fun _ _ _ h => h))
    have SG' : Hd (Gps (fun b => b < w.heap.size) W7 (.slice ag 8 cg) gw) := hid (SG.out.keep hk (fun _ _ _ h => h))
    clear HN H1 SG
    have HN := HN'
    clear HN'
    have H1 := H1'
    clear H1'
    have SG := SG'
    clear SG'
    have HK' : Hd (Keeps (fun _ => False) w W7) := hid (HK.out.trans hk)
    clear HK
    have HK := HK'
    clear HK'
    have z_W7 := hk.size
    clear hk
    go_wp2
    go_ret
    exact ⟨rfl, HK.out⟩
  · obtain ⟨a2, c2, hcut, hr2⟩ := run_cut_to (P := Tryd.prog) (t := 32) Tryd.underlying32 hig hg1 hrow (hh := (gs.length : Int)) gs.length rfl (Nat.le_refl _)
    have SG : Hd (Gps (fun b => b < w.heap.size) w (.slice a2 gs.length c2) gw) := hid (by unfold Gps; rw [← hgw, hgx 8, List.take_of_length_le (show gs.length ≤ 8 by omega), List.take_of_length_le (by rw [gpX_len]; omega)]; have h := hr2; rw [List.take_of_length_le (by rw [gpX_len]; exact Nat.le_refl _)] at h; exact h)
    have h8 : (gs.length : Int) < 8 := by omega
    generalize gs.length = m at *
    clear hr2 hrow hgx hgw
    clear hc
    obtain ⟨An, hA⟩ : ∃ A, answerL id few gw n = A := ⟨_, rfl⟩
    have HAn := hid hA
    have HBAn : Hd (∀ x ∈ An, ∀ c ∈ x.d, c < 256) := hid (by rw [← hA]; exact answerL_b HFB.out)
    clear hA
    go_wp2_with fail
    refine (most_any _ _ l1 _ H1.out).mono ?_
    rw [HFE.out]
    rintro e wx ⟨ma1, mc1, rfl, hm1, rfl⟩
    have SM1 := hid hm1; clear hm1
    go_wp2_with fail
    refine (Answer_any _ _ few gw id n _ HN.out (SM1.out.mono (fun b h _ => h)) HFB.out (Row.mono SG.out (fun b h _ => h)) (by omega) (by omega)).mono ?_
    rw [HAn.out]
    rintro e W1 ⟨la1, ln, lc1, rfl, hln, hlp, hk⟩
    subst hln
    have S1 := hid (hlp.sgs.mono (K' := fun _ => True) (fun _ _ _ => trivial))
    clear hlp
    have HN' : Hd (NibF W1) := hid (HN.out.keep hk (fun _ _ _ h => h))
    have H1' : Hd (Sl (fun b => b < w.heap.size) W1 v1 (u8s l1)) := hid (H1.out.keep hk (fun _ _ _ h => h))
    have SG' : Hd (Gps (fun b => b < w.heap.size) W1 (.slice a2 m c2) gw) := hid (SG.out.keep hk (fun _ _ _ h => h))
    have SM1' : Hd (Sl (fun b => b < w.heap.size) W1 (.slice ma1 few.length mc1) (u8s few)) := hid (SM1.out.keep hk (fun _ _ _ h => h))
    clear HN H1 SG SM1
    have HN := HN'
    clear HN'
    have H1 := H1'
    clear H1'
    have SG := SG'
    clear SG'
    have SM1 := SM1'
    clear SM1'
    have HK : Hd (Keeps (fun _ => False) w W1) := hid hk
    have z_W1 := hk.size
    clear hk
    go_wp2_with fail
    refine (most_any _ _ l1 _ H1.out).mono ?_
    rw [HFE.out]
    rintro e wx ⟨ma2, mc2, rfl, hm2, rfl⟩
    have SM2 := hid hm2; clear hm2
    go_wp2_with fail
    refine (refAnswer_any (fun b => b < w.heap.size) _ _ few gw id n _ (fun k h => by have := HK.out.size; omega) (SM2.out.mono (fun b h h2 => ⟨h2, h⟩)) HFB.out (Row.mono SG.out (fun b h _ => h)) (by omega) (by omega)).mono ?_
    rw [HAn.out]
    rintro e W2 ⟨la2, ln, lc2, rfl, hln, hlp, hk⟩
    subst hln
    have S2 := hid (hlp.sgs.mono (K' := fun _ => True) (fun _ _ _ => trivial))
    clear hlp
    have HN' : Hd (NibF W2) := hid (HN.out.keep hk (fun _ _ _ h => h))
    have H1' : Hd (Sl (fun b => b < w.heap.size) W2 v1 (u8s l1)) := hid (H1.out.keep hk (fun _ _ _ h => h))
    have SG' : Hd (Gps (fun b => b < w.heap.size) W2 (.slice a2 m c2) gw) := hid (SG.out.keep hk (fun _ _ _ h => h))
    have SM1' : Hd (Sl (fun b => b < w.heap.size) W2 (.slice ma1 few.length mc1) (u8s few)) := hid (SM1.out.keep hk (fun _ _ _ h => h))
    have S1' : Hd (Sgs (fun _ => True) W2 (.slice la1 An.length lc1) An) := hid (S1.out.keep hk (fun _ _ _ h => h))
    have SM2' : Hd (Sl (fun b => b < w.heap.size) W2 (.slice ma2 few.length mc2) (u8s few)) := hid (SM2.out.keep hk (fun _ _ _ h => h))
    clear HN H1 SG SM1 S1 SM2
    have HN := HN'
    clear HN'
    have H1 := H1'
    clear H1'
    have SG := SG'
    clear SG'
    have SM1 := SM1'
    clear SM1'
    have S1 := S1'
    clear S1'
    have SM2 := SM2'
    clear SM2'
    have HK' : Hd (Keeps (fun _ => False) w W2) := hid (HK.out.trans hk)
    clear HK
    have HK := HK'
    clear HK'
    have z_W2 := hk.size
    clear hk
    go_wp2_with fail
    refine (Same_any _ _ _ _ An _ S1.out S2.out HBAn.out).mono ?_
    rintro e W3 ⟨rfl, hk⟩
    have HN' : Hd (NibF W3) := hid (HN.out.keep hk (fun _ _ _ h => h))
    have H1' : Hd (Sl (fun b => b < w.heap.size) W3 v1 (u8s l1)) := hid (H1.out.keep hk (fun _ _ _ h => h))
    have SG' : Hd (Gps (fun b => b < w.heap.size) W3 (.slice a2 m c2) gw) := hid (SG.out.keep hk (fun _ _ _ h => h))
    have SM1' : Hd (Sl (fun b => b < w.heap.size) W3 (.slice ma1 few.length mc1) (u8s few)) := hid (SM1.out.keep hk (fun _ _ _ h => h))
    have S1' : Hd (Sgs (fun _ => True) W3 (.slice la1 An.length lc1) An) := hid (S1.out.keep hk (fun _ _ _ h => h))
    have SM2' : Hd (Sl (fun b => b < w.heap.size) W3 (.slice ma2 few.length mc2) (u8s few)) := hid (SM2.out.keep hk (fun _ _ _ h => h))
    have S2' : Hd (Sgs (fun _ => True) W3 (.slice la2 An.length lc2) An) := hid (S2.out.keep hk (fun _ _ _ h => h))
    clear HN H1 SG SM1 S1 SM2 S2
    have HN := HN'
    clear HN'
    have H1 := H1'
    clear H1'
    have SG := SG'
    clear SG'
    have SM1 := SM1'
    clear SM1'
    have S1 := S1'
    clear S1'
    have SM2 := SM2'
    clear SM2'
    have S2 := S2'
    clear S2'
    have HK' : Hd (Keeps (fun _ => False) w W3) := hid (HK.out.trans hk)
    clear HK
    have HK := HK'
    clear HK'
    have z_W3 := hk.size
    clear hk
    clear S2
    clear S1
    clear SM2
    clear SM1
    obtain ⟨d0, d1⟩ := around_b n (show (1 : Int) ≤ 256 by omega)
    obtain ⟨z, hz⟩ : ∃ z, 1 + around n 256 = z := ⟨_, rfl⟩
    have HZ := hid hz
    clear hz d0 d1
    obtain ⟨Az, hA⟩ : ∃ A, answerL id few gw z = A := ⟨_, rfl⟩
    have HAz := hid hA
    have HBAz : Hd (∀ x ∈ Az, ∀ c ∈ x.d, c < 256) := hid (by rw [← hA]; exact answerL_b HFB.out)
    clear hA
    go_wp2_with fail
    refine (most_any _ _ l1 _ H1.out).mono ?_
    rw [HFE.out]
    rintro e wx ⟨ma3, mc3, rfl, hm3, rfl⟩
    have SM3 := hid hm3; clear hm3
    go_wp2_with fail
    refine (size_any n _ HLO.out.1 HLO.out.2).mono ?_
    rw [HZ.out]
    rintro e wx ⟨rfl, rfl⟩
    go_wp2_with fail
    refine (Answer_any _ _ few gw id z _ HN.out (SM3.out.mono (fun b h _ => h)) HFB.out (Row.mono SG.out (fun b h _ => h)) (by omega) (by omega)).mono ?_
    rw [HAz.out]
    rintro e W4 ⟨la3, ln, lc3, rfl, hln, hlp, hk⟩
    subst hln
    have S3 := hid (hlp.sgs.mono (K' := fun _ => True) (fun _ _ _ => trivial))
    clear hlp
    have HN' : Hd (NibF W4) := hid (HN.out.keep hk (fun _ _ _ h => h))
    have H1' : Hd (Sl (fun b => b < w.heap.size) W4 v1 (u8s l1)) := hid (H1.out.keep hk (fun _ _ _ h => h))
    have SG' : Hd (Gps (fun b => b < w.heap.size) W4 (.slice a2 m c2) gw) := hid (SG.out.keep hk (fun _ _ _ h => h))
    have SM3' : Hd (Sl (fun b => b < w.heap.size) W4 (.slice ma3 few.length mc3) (u8s few)) := hid (SM3.out.keep hk (fun _ _ _ h => h))
    clear HN H1 SG SM3
    have HN := HN'
    clear HN'
    have H1 := H1'
    clear H1'
    have SG := SG'
    clear SG'
    have SM3 := SM3'
    clear SM3'
    have HK' : Hd (Keeps (fun _ => False) w W4) := hid (HK.out.trans hk)
    clear HK
    have HK := HK'
    clear HK'
    have z_W4 := hk.size
    clear hk
    go_wp2_with fail
    refine (most_any _ _ l1 _ H1.out).mono ?_
    rw [HFE.out]
    rintro e wx ⟨ma4, mc4, rfl, hm4, rfl⟩
    have SM4 := hid hm4; clear hm4
    go_wp2_with fail
    refine (size_any n _ HLO.out.1 HLO.out.2).mono ?_
    rw [HZ.out]
    rintro e wx ⟨rfl, rfl⟩
    go_wp2_with fail
    refine (refAnswer_any (fun b => b < w.heap.size) _ _ few gw id z _ (fun k h => by have := HK.out.size; omega) (SM4.out.mono (fun b h h2 => ⟨h2, h⟩)) HFB.out (Row.mono SG.out (fun b h _ => h)) (by omega) (by omega)).mono ?_
    rw [HAz.out]
    rintro e W5 ⟨la4, ln, lc4, rfl, hln, hlp, hk⟩
    subst hln
    have S4 := hid (hlp.sgs.mono (K' := fun _ => True) (fun _ _ _ => trivial))
    clear hlp
    have HN' : Hd (NibF W5) := hid (HN.out.keep hk (fun _ _ _ h => h))
    have H1' : Hd (Sl (fun b => b < w.heap.size) W5 v1 (u8s l1)) := hid (H1.out.keep hk (fun _ _ _ h => h))
    have SG' : Hd (Gps (fun b => b < w.heap.size) W5 (.slice a2 m c2) gw) := hid (SG.out.keep hk (fun _ _ _ h => h))
    have SM3' : Hd (Sl (fun b => b < w.heap.size) W5 (.slice ma3 few.length mc3) (u8s few)) := hid (SM3.out.keep hk (fun _ _ _ h => h))
    have S3' : Hd (Sgs (fun _ => True) W5 (.slice la3 Az.length lc3) Az) := hid (S3.out.keep hk (fun _ _ _ h => h))
    have SM4' : Hd (Sl (fun b => b < w.heap.size) W5 (.slice ma4 few.length mc4) (u8s few)) := hid (SM4.out.keep hk (fun _ _ _ h => h))
    clear HN H1 SG SM3 S3 SM4
    have HN := HN'
    clear HN'
    have H1 := H1'
    clear H1'
    have SG := SG'
    clear SG'
    have SM3 := SM3'
    clear SM3'
    have S3 := S3'
    clear S3'
    have SM4 := SM4'
    clear SM4'
    have HK' : Hd (Keeps (fun _ => False) w W5) := hid (HK.out.trans hk)
    clear HK
    have HK := HK'
    clear HK'
    have z_W5 := hk.size
    clear hk
    go_wp2_with fail
    refine (Same_any _ _ _ _ Az _ S3.out S4.out HBAz.out).mono ?_
    rintro e W6 ⟨rfl, hk⟩
    have HN' : Hd (NibF W6) := hid (HN.out.keep hk (fun _ _ _ h => h))
    have H1' : Hd (Sl (fun b => b < w.heap.size) W6 v1 (u8s l1)) := hid (H1.out.keep hk (fun _ _ _ h => h))
    have SG' : Hd (Gps (fun b => b < w.heap.size) W6 (.slice a2 m c2) gw) := hid (SG.out.keep hk (fun _ _ _ h => h))
    have SM3' : Hd (Sl (fun b => b < w.heap.size) W6 (.slice ma3 few.length mc3) (u8s few)) := hid (SM3.out.keep hk (fun _ _ _ h => h))
    have S3' : Hd (Sgs (fun _ => True) W6 (.slice la3 Az.length lc3) Az) := hid (S3.out.keep hk (fun _ _ _ h => h))
    have SM4' : Hd (Sl (fun b => b < w.heap.size) W6 (.slice ma4 few.length mc4) (u8s few)) := hid (SM4.out.keep hk (fun _ _ _ h => h))
    have S4' : Hd (Sgs (fun _ => True) W6 (.slice la4 Az.length lc4) Az) := hid (S4.out.keep hk (fun _ _ _ h => h))
    clear HN H1 SG SM3 S3 SM4 S4
    have HN := HN'
    clear HN'
    have H1 := H1'
    clear H1'
    have SG := SG'
    clear SG'
    have SM3 := SM3'
    clear SM3'
    have S3 := S3'
    clear S3'
    have SM4 := SM4'
    clear SM4'
    have S4 := S4'
    clear S4'
    have HK' : Hd (Keeps (fun _ => False) w W6) := hid (HK.out.trans hk)
    clear HK
    have HK := HK'
    clear HK'
    have z_W6 := hk.size
    clear hk
    clear S4
    clear S3
    clear SM4
    clear SM3
    go_wp2_with fail
    refine (lives_any _ HN.out).mono ?_
    rintro e W7 ⟨rfl, hk⟩
    have HN' : Hd (NibF W7) := hid (HN.out.keep hk (fun _ _ _ h => h))
    have H1' : Hd (Sl (fun b => b < w.heap.size) W7 v1 (u8s l1)) := hid (H1.out.keep hk (fun _ _ _ h => h))
    have SG' : Hd (Gps (fun b => b < w.heap.size) W7 (.slice a2 m c2) gw) := hid (SG.out.keep hk (fun _ _ _ h => h))
    clear HN H1 SG
    have HN := HN'
    clear HN'
    have H1 := H1'
    clear H1'
    have SG := SG'
    clear SG'
    have HK' : Hd (Keeps (fun _ => False) w W7) := hid (HK.out.trans hk)
    clear HK
    have HK := HK'
    clear HK'
    have z_W7 := hk.size
    clear hk
    go_wp2
    go_ret
    exact ⟨rfl, HK.out⟩
end Go.Proofs.YtgeicbjlichdgaaDoor
