/- Link: LinkSpoils, LinkCounts walked. -/
import Derived.Test.YtffnocjaljgnoaaLinkX
namespace Go.Proofs.Ytffnocjaljgnoaa
open Go.RowKit
attribute [local go_sem ↓] Go.wp_at_zero Go.wp_at_succ
theorem sameB_true (K1 K2 : Nat → Prop) (v1 v2 : Value) (xs : List Nat) (w : World) (h1 : Sl K1 w v1 (u8s xs)) (h2 : Sl K2 w v2 (u8s xs)) (hx : ∀ c ∈ xs, c < 256) :
    Calls Try.prog 23 #[v1, v2] w fun e w' => e = .returned (.bool true) ∧ w = w' :=
  (SameBytes_any K1 K2 v1 v2 xs xs w h1 h2 hx hx).mono (fun e w' h => ⟨by rw [h.1]; simp, h.2⟩)
def FtP (kd arg : Int) (fg : List Nat) (W : World) (bx : Nat) (cs : Array Value) (wx : World) : Prop := ∃ a c, cs = #[.int .i64 0, .int .i64 kd, .int .i64 0, .int .i64 arg, .slice a fg.length c] ∧ Sl (fun b => W.heap.size ≤ b ∧ b ≠ bx) wx (.slice a fg.length c) (u8s fg)
theorem spoil_lt {b : List Nat} {x : Ft} (h2 : ∀ c ∈ b, c < 256) (h4 : ∀ c ∈ x.fg, c < 256) : ∀ c ∈ spoilL b x, c < 256 := by
  unfold spoilL
  split
  · exact h4
  · split
    · exact fun c hc => h2 c (List.mem_of_mem_take hc)
    · split
      · intro c hc
        rcases List.mem_or_eq_of_mem_set hc with hc | rfl
        · exact h2 c hc
        · omega
      · exact h2
set_option maxRecDepth 100000 in set_option maxHeartbeats 1000000 in
theorem spoils_any (v0 v3 : Value) (l0 l3 : List Nat) (kind arg : Int) (w : World) (h0 : Sl (fun b => b < w.heap.size) w v0 (u8s l0)) (hl0 : ∀ c ∈ l0, c < 256) (h1 : -9223372036854775808 ≤ kind ∧ kind ≤ 9223372036854775807) (h3 : Sl (fun b => b < w.heap.size) w v3 (u8s l3)) (hl3 : ∀ c ∈ l3, c < 256) :
    Calls Try.prog 5 #[v0, .int .i64 kind, .int .i64 arg, v3] w fun e w' => e = .returned (.bool true) ∧ Keeps (fun _ => False) w w' := by
  have H0 := hid h0; have H3 := hid h3; have H1 := hid h1
  obtain ⟨a3', c3', rfl, -⟩ := h3.bytes
  obtain ⟨few, hfew⟩ : ∃ few, l0.take 100 = few := ⟨_, rfl⟩
  obtain ⟨fg, hfg⟩ : ∃ fg, l3.take 100 = fg := ⟨_, rfl⟩
  have HF1 : Hd (few.length ≤ 100 ∧ ∀ c ∈ few, c < 256) := hid (by rw [← hfew]; exact ⟨by rw [List.length_take]; omega, fun c hc => hl0 c (List.mem_of_mem_take hc)⟩)
  have HF3 : Hd (fg.length ≤ 100 ∧ ∀ c ∈ fg, c < 256) := hid (by rw [← hfg]; exact ⟨by rw [List.length_take]; omega, fun c hc => hl3 c (List.mem_of_mem_take hc)⟩)
  have HFW : Hd (∀ V, Keeps (fun _ => False) w V → Calls Try.prog 22 #[.slice a3' l3.length c3', .int .i64 100] V fun e w' => NewRet V 5 (u8s fg) e w') := hid (fun V hk => by
    have := Few_any _ _ l3 100 V (h3.keep hk (fun _ _ _ h => h)) (by omega) (by rw [List.length_take]; omega)
    rw [← hfg]; exact this)
  have HF0 := Few_any _ _ l0 100 w h0 (by omega) (by rw [List.length_take]; omega)
  rw [show ((100 : Int).toNat) = 100 from rfl, hfew] at HF0
  have HFZ := hid HF0
  clear h0 h1 h3 hl0 hl3 hfew hfg HF0
  generalize l3.length = n3 at *
  go_enter Try.func5, Try.ntmps5
  go_wp2_with fail
  refine HFZ.out.mono ?_
  rintro e w1 ⟨a0, n0, c0, rfl, hn0, ho0, hk⟩
  obtain rfl : n0 = few.length := by rw [hn0, u8s_length]
  have SB : Hd (Sl (fun b => w.heap.size ≤ b) w1 (.slice a0 few.length c0) (u8s few)) := hid (row_sl ho0.row (by rw [u8s_length]))
  clear hn0 ho0 HFZ
  have HK : Hd (Keeps (fun _ => False) w w1) := hid hk
  have z_w1 := hk.size
  clear hk
  go_wp2_with fail
  refine (Around_any kind 7 _ H1.out.1 H1.out.2 (by omega) (by omega)).mono ?_
  rintro e wx ⟨rfl, rfl⟩
  generalize around kind 7 = k7 at *
  go_upto_region 3 with fail
  generalize hW : World.alloc w1 _ = W1
  have KS : Hd (Keeps (fun _ => False) w1 W1) := hid (by rw [← hW]; exact (Keeps.alloc (Keeps.refl (fun _ => False) w1) _))
  have SB' : Hd (Sl (fun b => w.heap.size ≤ b) W1 (.slice a0 few.length c0) (u8s few)) := hid (SB.out.keep KS.out (fun _ _ _ h => h))
  have BA : Hd (Blk W1 w1.heap.size #[.int .i64 kind, .int .i64 k7] 3) := hid (by rw [← hW]; exact (blk_new _ _ _))
  clear SB
  have SB := SB'
  clear SB'
  have HK' : Hd (Keeps (fun _ => False) w W1) := hid (HK.out.trans KS.out)
  clear HK
  have HK := HK'
  clear HK'
  have z_W1 : w1.heap.size + 1 ≤ W1.heap.size := by rw [← hW]; simp
  clear hW KS
  go_wp2_with fail
  go_loopw [11] (fun i wr => ∃ k : Nat, i = .int .i64 k ∧ k ≤ 2 ∧ Hd (Keeps (fun _ => False) W1 wr)) (fun i _ => 2 - (intOf i).toNat)
  case atStart => exact ⟨0, rfl, by omega, hid (Keeps.refl _ _)⟩
  case round =>
    obtain ⟨k, rfl, hk2, KR⟩ := hrel
    have hk := KR.out
    have SB' : Hd (Sl (fun b => w.heap.size ≤ b) wr (.slice a0 few.length c0) (u8s few)) := hid (SB.out.keep hk (fun _ _ _ h => h))
    have BA' : Hd (Blk wr w1.heap.size #[.int .i64 kind, .int .i64 k7] 3) := hid (blk_keep BA.out hk (fun h => h))
    clear SB BA
    have SB := SB'
    clear SB'
    have BA := BA'
    clear BA'
    have HK' : Hd (Keeps (fun _ => False) w wr) := hid (HK.out.trans hk)
    clear HK
    have HK := HK'
    clear HK'
    have z_wr := hk.size
    clear hk
    by_cases hk : k < 2
    · obtain ⟨kd, hkd⟩ : ∃ kd, wr.cell? ⟨w1.heap.size, k, none⟩ = some (.int .i64 kd) := by
        rcases (show k = 0 ∨ k = 1 by omega) with rfl | rfl
        · exact ⟨kind, blk_cell BA.out 0⟩
        · exact ⟨k7, blk_cell BA.out 1⟩
      have HSK : Hd (∀ w', Keeps (fun _ => False) wr w' → w'.cell? ⟨w1.heap.size, k, none⟩ = some (.int .i64 kd)) := hid (fun w' hk => keep_cell hk (fun h => h) hkd)
      have k1 : (k : Int) < 2 := by omega
      have k2 : (0 : Int) ≤ k := by omega
      clear hkd
      go_upto_region 6 with fail
      go_cut [12] from 23 to 30 (fun u12 wx => CutF wr 49 (FtP kd arg fg wr) u12 wx)
      case first =>
        have KC : Hd (Keeps (fun _ => False) wr wr) := hid (Keeps.refl _ _)
        have HSS : Hd (∀ w', Keeps (fun _ => False) wr w' → (w'.cell? ⟨w1.heap.size, k, none⟩ = some (.int .i64 kd))) := hid (fun w' hk => HSK.out w' hk)
        go_region_held (fun w' => w'.cell? ⟨w1.heap.size, k, none⟩ = some (.int .i64 kd)) (exact HSS.out _ (by repeat (first | (with_reducible exact KC.out) | (with_reducible exact Keeps.refl _ _) | (with_reducible apply Keeps.drewN) | (with_reducible apply Keeps.drew) | (with_reducible apply Keeps.alloc) | (refine Keeps.setCell ?_ (.inr (by first | exact Nat.le_refl _ | (simp; done) | (simp; omega) | omega)) _))))
          (first
          | (go_at_call 22; (refine (HFW.out _ (HK.out.trans (S := fun _ => False) (by repeat (first | (with_reducible exact KC.out) | (with_reducible exact Keeps.refl _ _) | (with_reducible apply Keeps.drewN) | (with_reducible apply Keeps.drew) | (with_reducible apply Keeps.alloc))))).mono ?_); rintro e wy0 ⟨a6, n6, c6, rfl, hn6, ho6, hk⟩; have KC2 : Hd (Keeps (fun _ => False) wr wy0) := hid (Keeps.trans (S := fun _ => False) (by repeat (first | (with_reducible exact KC.out) | (with_reducible exact Keeps.refl _ _) | (with_reducible apply Keeps.drewN) | (with_reducible apply Keeps.drew) | (with_reducible apply Keeps.alloc))) hk); have zc := KC.out.size; obtain rfl : n6 = fg.length := (by rw [hn6, u8s_length]); have HS6 := hid (row_sl ho6.row (by rw [u8s_length])); clear hn6 ho6; (first | (have HNB2 := hid (blk_keep HNB.out hk (fun h => h)); replace HNB := HNB2; clear HNB2) | (have HNB := new_blk (W := wr) (cs := #[.int .i64 0, .int .i64 0, .int .i64 0, .int .i64 0, .slice none 0 0]) (T := 49) hk rfl) | skip); replace KC := KC2; clear KC2; (try (have F0 := blk_cell HNB.out 0; have G0 := blk_free HNB.out 0; have F1 := blk_cell HNB.out 1; have G1 := blk_free HNB.out 1; have F2 := blk_cell HNB.out 2; have G2 := blk_free HNB.out 2; have F3 := blk_cell HNB.out 3; have G3 := blk_free HNB.out 3; have F4 := blk_cell HNB.out 4; have G4 := blk_free HNB.out 4)); have zk := hk.size; (try simp at zk); have zd := KC.out.size; replace hk := hid hk))
        all_goals
          go_wp2_with fail
          go_meet
          first | ((with_reducible refine cutF_new KC.out ?_); exact (fun w' hk => ⟨a6, c6, rfl, (HS6.out.mono (K' := fun b => wr.heap.size ≤ b ∧ b ≠ wy0.heap.size) (fun b h1 h => by (try simp at h); omega)).keep hk (fun _ _ _ h => h)⟩)) | ((with_reducible refine cutF_old5 KC.out (by first | exact Nat.le_refl _ | omega | (simp; done) | (simp; omega)) HNB.out ?_); exact (fun w' hk => ⟨a6, c6, rfl, (HS6.out.keep hk (fun b _ h1 h2 => by (try simp at h1); omega)).mono (fun b _ h => by (try simp at h); omega)⟩)) | ((with_reducible refine cutF_drew (fun _ _ _ h => h) (cutF_new KC.out ?_)); exact (fun w' hk => ⟨a6, c6, rfl, (HS6.out.mono (K' := fun b => wr.heap.size ≤ b ∧ b ≠ wy0.heap.size) (fun b h1 h => by (try simp at h); omega)).keep hk (fun _ _ _ h => h)⟩)) | ((with_reducible refine cutF_drew (fun _ _ _ h => h) (cutF_old5 KC.out (by first | exact Nat.le_refl _ | omega | (simp; done) | (simp; omega)) HNB.out ?_)); exact (fun w' hk => ⟨a6, c6, rfl, (HS6.out.keep hk (fun b _ h1 h2 => by (try simp at h1); omega)).mono (fun b _ h => by (try simp at h); omega)⟩))
      case rest =>
        obtain ⟨b_BX, cs_BX, rfl, hb_BX, BX, HP, hk⟩ := hcut
        have hk_BX := hk; replace hk := hk.out
        generalize wc = W2 at *
        have SB' : Hd (Sl (fun b => w.heap.size ≤ b) W2 (.slice a0 few.length c0) (u8s few)) := hid (SB.out.keep hk (fun _ _ _ h => h))
        have BA' : Hd (Blk W2 w1.heap.size #[.int .i64 kind, .int .i64 k7] 3) := hid (blk_keep BA.out hk (fun h => h))
        clear SB BA
        have SB := SB'
        clear SB'
        have BA := BA'
        clear BA'
        have HK' : Hd (Keeps (fun _ => False) w W2) := hid (HK.out.trans hk)
        clear HK
        have HK := HK'
        clear HK'
        have z_W2 := hk.size
        clear hk
        obtain ⟨a6, c6, rfl, hs6⟩ := HP.out
        have SF := hid hs6; clear hs6 HP
        obtain ⟨x, hx⟩ : ∃ x : Ft, x = ⟨0, kd, 0, arg, fg⟩ := ⟨_, rfl⟩
        have HXF : Hd (x.fg = fg) := hid (by rw [hx])
        obtain ⟨z, hz⟩ : ∃ z, spoilL few x = z := ⟨_, rfl⟩
        have HZ8 : Hd (∀ c ∈ z, c < 256) := hid (by rw [← hz]; exact spoil_lt HF1.out.2 (by rw [hx]; exact HF3.out.2))
        have HZ := hid hz; have HX := hid hx; clear hz hx
        have HSS : Hd (∀ w', Keeps (fun _ => False) W2 w' → (w'.cell? ⟨b_BX, 0, none⟩ = some (.int .i64 0) ∧ w'.cell? ⟨b_BX, 1, none⟩ = some (.int .i64 kd) ∧ w'.cell? ⟨b_BX, 2, none⟩ = some (.int .i64 0) ∧ w'.cell? ⟨b_BX, 3, none⟩ = some (.int .i64 arg) ∧ w'.cell? ⟨b_BX, 4, none⟩ = some (.slice a6 fg.length c6))) := hid (fun w' hk => ⟨blk_cell (blk_keep BX.out hk (fun h => h)) 0, blk_cell (blk_keep BX.out hk (fun h => h)) 1, blk_cell (blk_keep BX.out hk (fun h => h)) 2, blk_cell (blk_keep BX.out hk (fun h => h)) 3, blk_cell (blk_keep BX.out hk (fun h => h)) 4⟩)
        have KC : Hd (Keeps (fun _ => False) W2 W2) := hid (Keeps.refl _ _)
        have hf1 := HF1.out.1
        go_upto_region 7 with fail
        go_region_held (fun w' => w'.cell? ⟨b_BX, 0, none⟩ = some (.int .i64 0) ∧ w'.cell? ⟨b_BX, 1, none⟩ = some (.int .i64 kd) ∧ w'.cell? ⟨b_BX, 2, none⟩ = some (.int .i64 0) ∧ w'.cell? ⟨b_BX, 3, none⟩ = some (.int .i64 arg) ∧ w'.cell? ⟨b_BX, 4, none⟩ = some (.slice a6 fg.length c6)) (exact HSS.out _ (by repeat (first | (with_reducible exact KC.out) | (with_reducible exact Keeps.refl _ _) | (with_reducible apply Keeps.drewN) | (with_reducible apply Keeps.drew) | (with_reducible apply Keeps.alloc))))
          (first
          | (go_at_call 24; refine (Spoil_any (fun _ => True) _ few _ x _ ((SB.out.keep (S := fun _ => False) (by repeat (first | (with_reducible exact KC.out) | (with_reducible exact Keeps.refl _ _) | (with_reducible apply Keeps.drewN) | (with_reducible apply Keeps.drew) | (with_reducible apply Keeps.alloc))) (fun _ _ _ h => h)).mono (fun b h _ => h)) ⟨a6, c6, by rw [HX.out], by rw [HX.out]; exact (SF.out.keep (S := fun _ => False) (by repeat (first | (with_reducible exact KC.out) | (with_reducible exact Keeps.refl _ _) | (with_reducible apply Keeps.drewN) | (with_reducible apply Keeps.drew) | (with_reducible apply Keeps.alloc))) (fun _ _ _ h => h)).mono (fun b h _ => h)⟩ HF1.out.2 (by omega) (by rw [HX.out]; exact Nat.le_trans HF3.out.1 (by omega))).mono ?_; rw [HZ.out]; rintro e wy1 ⟨ra1, rc1, rfl, rs1, hk⟩; have RS1 := hid rs1; have L1 : Hd (Keeps (fun _ => False) wy1 wy1) := hid (Keeps.refl _ _); (try (replace L2 := hid (Keeps.trans (S := fun _ => False) (by repeat (first | (with_reducible exact L2.out) | (with_reducible exact Keeps.refl _ _) | (with_reducible apply Keeps.drewN) | (with_reducible apply Keeps.drew) | (with_reducible apply Keeps.alloc))) hk))); have KC2 : Hd (Keeps (fun _ => False) W2 wy1) := hid (Keeps.trans (S := fun _ => False) (by repeat (first | (with_reducible exact KC.out) | (with_reducible exact Keeps.refl _ _) | (with_reducible apply Keeps.drewN) | (with_reducible apply Keeps.drew) | (with_reducible apply Keeps.alloc))) hk); replace KC := KC2; clear KC2 hk rs1)
          | (go_at_call 25; refine (refSpoil_any _ few _ x _ ((SB.out.keep (S := fun _ => False) (by repeat (first | (with_reducible exact KC.out) | (with_reducible exact Keeps.refl _ _) | (with_reducible apply Keeps.drewN) | (with_reducible apply Keeps.drew) | (with_reducible apply Keeps.alloc))) (fun _ _ _ h => h)).mono (fun b h _ => h)) ⟨a6, c6, by rw [HX.out], by rw [HX.out]; exact (SF.out.keep (S := fun _ => False) (by repeat (first | (with_reducible exact KC.out) | (with_reducible exact Keeps.refl _ _) | (with_reducible apply Keeps.drewN) | (with_reducible apply Keeps.drew) | (with_reducible apply Keeps.alloc))) (fun _ _ _ h => h)).mono (fun b h _ => h)⟩ HF1.out.2 (by omega) (by rw [HX.out]; exact Nat.le_trans HF3.out.1 (by omega))).mono ?_; rw [HZ.out]; rintro e wy2 ⟨ra2, rc2, rfl, rs2, hk⟩; have RS2 := hid rs2; have L2 : Hd (Keeps (fun _ => False) wy2 wy2) := hid (Keeps.refl _ _); (try (replace L1 := hid (Keeps.trans (S := fun _ => False) (by repeat (first | (with_reducible exact L1.out) | (with_reducible exact Keeps.refl _ _) | (with_reducible apply Keeps.drewN) | (with_reducible apply Keeps.drew) | (with_reducible apply Keeps.alloc))) hk))); have KC2 : Hd (Keeps (fun _ => False) W2 wy2) := hid (Keeps.trans (S := fun _ => False) (by repeat (first | (with_reducible exact KC.out) | (with_reducible exact Keeps.refl _ _) | (with_reducible apply Keeps.drewN) | (with_reducible apply Keeps.drew) | (with_reducible apply Keeps.alloc))) hk); replace KC := KC2; clear KC2 hk rs2)
          | (go_at_call 23; refine (sameB_true _ _ _ _ z _ (RS1.out.keep (S := fun _ => False) (by repeat (first | (with_reducible exact L1.out) | (with_reducible exact Keeps.refl _ _) | (with_reducible apply Keeps.drewN) | (with_reducible apply Keeps.drew) | (with_reducible apply Keeps.alloc))) (fun _ _ _ h => h)) (RS2.out.keep (S := fun _ => False) (by repeat (first | (with_reducible exact L2.out) | (with_reducible exact Keeps.refl _ _) | (with_reducible apply Keeps.drewN) | (with_reducible apply Keeps.drew) | (with_reducible apply Keeps.alloc))) (fun _ _ _ h => h)) HZ8.out).mono ?_; rintro e wz ⟨rfl, rfl⟩))
        all_goals
          go_wp2
          go_roundw
          case rel => exact ⟨k + 1, by go_num, by omega, hid ((KR.out.trans hk_BX.out).trans (S := fun _ => False) (by repeat (first | (with_reducible exact KC.out) | (with_reducible exact Keeps.refl _ _) | (with_reducible apply Keeps.drewN) | (with_reducible apply Keeps.drew) | (with_reducible apply Keeps.alloc))))⟩
          case measure => simp [intOf]; omega
    · have hkm2 : k = 2 := by omega
      subst hkm2
      have k0 : ¬ (((2 : Nat) : Int) < 2) := by omega
      clear hk
      go_wp2_with fail
      refine (lives_any _).mono ?_
      rintro e W2 ⟨rfl, hk⟩
      have SB' : Hd (Sl (fun b => w.heap.size ≤ b) W2 (.slice a0 few.length c0) (u8s few)) := hid (SB.out.keep hk (fun _ _ _ h => h))
      have BA' : Hd (Blk W2 w1.heap.size #[.int .i64 kind, .int .i64 k7] 3) := hid (blk_keep BA.out hk (fun h => h))
      clear SB BA
      have SB := SB'
      clear SB'
      have BA := BA'
      clear BA'
      have HK' : Hd (Keeps (fun _ => False) w W2) := hid (HK.out.trans hk)
      clear HK
      have HK := HK'
      clear HK'
      have z_W2 := hk.size
      clear hk
      go_wp2
      go_ret
      exact ⟨rfl, HK.out⟩
end Go.Proofs.Ytffnocjaljgnoaa
