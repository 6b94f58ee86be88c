/- File: same; FilePuts walked. -/
import Derived.Test.YtgeicbjlichdgaaDoorFileAB
import Derived.Test.YtgeicbjlichdgaaDoorFileT
import Derived.Test.YtgeicbjlichdgaaDoorOpenS
namespace Go.Proofs.YtgeicbjlichdgaaDoor
open Go.RowKit
attribute [local go_sem ↓] Go.wp_at_zero Go.wp_at_succ
set_option maxRecDepth 100000 in set_option maxHeartbeats 1000000 in
theorem same_any (Z K : Nat → Prop) (p : Nat) (M : Pm) (ah : Option Addr) (ch : Nat) (ad : Option Addr) (cd : Nat) (w : World) (hN : Cr.Nib w) (hP : PartR Z w p M) (hM : M.ok) (hr : RPr K w M ah ch ad cd) :
    Calls Tryd.prog 33 #[.pointer (some ⟨p, 0, none⟩), .agg #[.int .i64 M.id, .bool M.kn, .int .i64 (M.dt.length : Int), .int .u32 (M.sm : Int), .slice ah M.hv.length ch, .slice ad M.dt.length cd]] w fun e w' => e = .returned (.bool true) ∧ Keeps (fun _ => False) w w' := by
  have HN : Hd (NibF w) := hid hN
  have HP := hid hP; have HOK := hid hM; have HRR := hid hr
  clear hN hP hM hr
  obtain ⟨b1, hb1⟩ : ∃ b1, bytesM M = b1 := ⟨_, rfl⟩
  have HB1 := hid hb1
  have HBB : Hd (∀ c ∈ b1.1, c < 256) := hid (by rw [← hb1]; unfold bytesM; have := HOK.out.b; split; simp; split; simp; split; simp; exact this)
  clear hb1
  obtain ⟨G, hG⟩ : ∃ G, gapsM M = G := ⟨_, rfl⟩
  have HG := hid hG
  clear hG
  go_enter Tryd.func33, Tryd.ntmps33
  go_upto_region 1 with fail
  generalize hW : World.alloc w _ = W1
  have KS : Hd (Keeps (fun _ => False) w W1) := hid (by rw [← hW]; exact (Keeps.alloc (Keeps.refl (fun _ => False) w) _))
  have HN' : Hd (NibF W1) := hid (HN.out.keep KS.out (fun _ _ _ h => h))
  have HP' : Hd (PartR Z W1 p M) := hid (HP.out.keep KS.out (fun _ _ _ h => h))
  have HRR' : Hd (RPr K W1 M ah ch ad cd) := hid (HRR.out.keep KS.out (fun _ _ _ h => h))
  have BP : Hd (Blk W1 w.heap.size #[(.int .i64 M.id), (.bool M.kn), (.int .i64 (M.dt.length : Int)), (.int .u32 (M.sm : Int)), (.slice ah M.hv.length ch), (.slice ad M.dt.length cd)] 61) := hid (by rw [← hW]; exact (blk_new _ _ _))
  clear HN HP HRR
  have HN := HN'
  clear HN'
  have HP := HP'
  clear HP'
  have HRR := HRR'
  clear HRR'
  have HK : Hd (Keeps (fun _ => False) w W1) := hid KS.out
  have z_W1 : w.heap.size + 1 ≤ W1.heap.size := by rw [← hW]; simp
  clear hW KS
  go_wp2_with fail
  refine (Bytes_any _ _ M _ HN.out HP.out HOK.out).mono ?_
  rw [HB1.out]
  rintro e W2 ⟨ba1, bc1, rfl, hbo, hk⟩
  have SB1 : Hd (Sl (fun _ => True) _ (.slice ba1 b1.1.length bc1) (u8s b1.1)) := hid (row_sl (hbo.row.mono (fun _ _ _ => trivial)) (by simp))
  clear hbo
  have HN' : Hd (NibF W2) := hid (HN.out.keep hk (fun _ _ _ h => h))
  have HP' : Hd (PartR Z W2 p M) := hid (HP.out.keep hk (fun _ _ _ h => h))
  have HRR' : Hd (RPr K W2 M ah ch ad cd) := hid (HRR.out.keep hk (fun _ _ _ h => h))
  have BP' : Hd (Blk W2 w.heap.size #[(.int .i64 M.id), (.bool M.kn), (.int .i64 (M.dt.length : Int)), (.int .u32 (M.sm : Int)), (.slice ah M.hv.length ch), (.slice ad M.dt.length cd)] 61) := hid (blk_keep BP.out hk (fun h => h))
  clear HN HP HRR BP
  have HN := HN'
  clear HN'
  have HP := HP'
  clear HP'
  have HRR := HRR'
  clear HRR'
  have BP := BP'
  clear BP'
  have HK' : Hd (Keeps (fun _ => False) w W2) := hid (HK.out.trans hk)
  clear HK
  have HK := HK'
  clear HK'
  have z_W2 := hk.size
  clear hk
  have o_BP_0 : W2.cell? ⟨w.heap.size, 0, none⟩ = some ((.int .i64 M.id)) := blk_cell BP.out 0
  have o_BP_1 : W2.cell? ⟨w.heap.size, 1, none⟩ = some ((.bool M.kn)) := blk_cell BP.out 1
  have o_BP_2 : W2.cell? ⟨w.heap.size, 2, none⟩ = some ((.int .i64 (M.dt.length : Int))) := blk_cell BP.out 2
  have o_BP_3 : W2.cell? ⟨w.heap.size, 3, none⟩ = some ((.int .u32 (M.sm : Int))) := blk_cell BP.out 3
  have o_BP_4 : W2.cell? ⟨w.heap.size, 4, none⟩ = some ((.slice ah M.hv.length ch)) := blk_cell BP.out 4
  have o_BP_5 : W2.cell? ⟨w.heap.size, 5, none⟩ = some ((.slice ad M.dt.length cd)) := blk_cell BP.out 5
  have hcall := RBytes_any K M ah ch ad cd _ HOK.out HRR.out
  rw [HB1.out] at hcall
  have HC := hid hcall
  clear hcall
  go_wp2_with fail
  refine (HC.out).mono ?_
  rintro e W3x ⟨ra, rc, rfl, hs2, hk⟩
  have SB2 := hid hs2
  clear hs2 HC
  clear o_BP_0 o_BP_1 o_BP_2 o_BP_3 o_BP_4 o_BP_5
  have HN' : Hd (NibF W3x) := hid (HN.out.keep hk (fun _ _ _ h => h))
  have HP' : Hd (PartR Z W3x p M) := hid (HP.out.keep hk (fun _ _ _ h => h))
  have HRR' : Hd (RPr K W3x M ah ch ad cd) := hid (HRR.out.keep hk (fun _ _ _ h => h))
  have BP' : Hd (Blk W3x w.heap.size #[(.int .i64 M.id), (.bool M.kn), (.int .i64 (M.dt.length : Int)), (.int .u32 (M.sm : Int)), (.slice ah M.hv.length ch), (.slice ad M.dt.length cd)] 61) := hid (blk_keep BP.out hk (fun h => h))
  have SB1' : Hd (Sl (fun _ => True) W3x (.slice ba1 b1.1.length bc1) (u8s b1.1)) := hid (SB1.out.keep hk (fun _ _ _ h => h))
  clear HN HP HRR BP SB1
  have HN := HN'
  clear HN'
  have HP := HP'
  clear HP'
  have HRR := HRR'
  clear HRR'
  have BP := BP'
  clear BP'
  have SB1 := SB1'
  clear SB1'
  have HK' : Hd (Keeps (fun _ => False) w W3x) := hid (HK.out.trans hk)
  clear HK
  have HK := HK'
  clear HK'
  have z_W3x := hk.size
  clear hk
  have hkk : (M.kn == M.kn) = true := beq_self_eq_true _
  have hbb : (b1.2 == b1.2) = true := beq_self_eq_true _
  go_upto_region 3 with fail
  have KC : Hd (Keeps (fun _ => False) W3x W3x) := hid (Keeps.refl _ _)
  have HSS : Hd (∀ w', Keeps (fun _ => False) W3x w' → (w'.cell? ⟨w.heap.size, 0, none⟩ = some (.int .i64 M.id) ∧ w'.cell? ⟨w.heap.size, 1, none⟩ = some (.bool M.kn) ∧ w'.cell? ⟨w.heap.size, 2, none⟩ = some (.int .i64 (M.dt.length : Int)) ∧ w'.cell? ⟨w.heap.size, 3, none⟩ = some (.int .u32 (M.sm : Int)) ∧ w'.cell? ⟨w.heap.size, 4, none⟩ = some (.slice ah M.hv.length ch) ∧ w'.cell? ⟨w.heap.size, 5, none⟩ = some (.slice ad M.dt.length cd))) := hid (fun w' hk => ⟨blk_cell (blk_keep BP.out hk (fun h => h)) 0, blk_cell (blk_keep BP.out hk (fun h => h)) 1, blk_cell (blk_keep BP.out hk (fun h => h)) 2, blk_cell (blk_keep BP.out hk (fun h => h)) 3, blk_cell (blk_keep BP.out hk (fun h => h)) 4, blk_cell (blk_keep BP.out hk (fun h => h)) 5⟩)
  have HPV : Hd (∀ V, Keeps (fun _ => False) W3x V → PartR Z V p M) := hid (fun V hk => HP.out.keep hk (fun _ _ _ h => h))
  have HRV : Hd (∀ V, Keeps (fun _ => False) W3x V → RPr K V M ah ch ad cd) := hid (fun V hk => HRR.out.keep hk (fun _ _ _ h => h))
  have HV1 : Hd (∀ V, Keeps (fun _ => False) W3x V → Sl (fun _ => True) V (.slice ba1 b1.1.length bc1) (u8s b1.1)) := hid (fun V hk => SB1.out.keep hk (fun _ _ _ h => h))
  have HV2 : Hd (∀ V, Keeps (fun _ => False) W3x V → Sl (fun _ => True) V (.slice ra b1.1.length rc) (u8s b1.1)) := hid (fun V hk => SB2.out.keep hk (fun _ _ _ h => h))
  have HRG : Hd (∀ V, RPr K V M ah ch ad cd → Calls Tryd.prog 49 #[.agg #[(.int .i64 M.id), (.bool M.kn), (.int .i64 (M.dt.length : Int)), (.int .u32 (M.sm : Int)), (.slice ah M.hv.length ch), (.slice ad M.dt.length cd)]] V fun e w' => ∃ a c, e = .returned (.slice a G.length c) ∧ Own (fun b => V.heap.size ≤ b) w' 52 2 (.slice a G.length c) G.length (gpX G) ∧ Keeps (fun _ => False) V w') := hid (fun V h => by have h2 := RGaps_any K M ah ch ad cd V HOK.out h.1; rw [HG.out] at h2; exact h2)
  have HPG : Hd (∀ V, PartR Z V p M → Calls Tryd.prog 27 #[.pointer (some ⟨p, 0, none⟩)] V fun e w' => ∃ a c, e = .returned (.slice a G.length c) ∧ Own (fun b => V.heap.size ≤ b) w' 52 2 (.slice a G.length c) G.length (gpX G) ∧ Keeps (fun _ => False) V w') := hid (fun V h => by have h2 := Gaps_any Z p M V h HOK.out; rw [HG.out] at h2; exact h2)
  go_region_held (fun w' => w'.cell? ⟨w.heap.size, 0, none⟩ = some (.int .i64 M.id) ∧ w'.cell? ⟨w.heap.size, 1, none⟩ = some (.bool M.kn) ∧ w'.cell? ⟨w.heap.size, 2, none⟩ = some (.int .i64 (M.dt.length : Int)) ∧ w'.cell? ⟨w.heap.size, 3, none⟩ = some (.int .u32 (M.sm : Int)) ∧ w'.cell? ⟨w.heap.size, 4, none⟩ = some (.slice ah M.hv.length ch) ∧ w'.cell? ⟨w.heap.size, 5, none⟩ = some (.slice ad M.dt.length cd)) (exact HSS.out _ (by repeat (first | (with_reducible exact KC.out) | (with_reducible exact Keeps.refl _ _) | (with_reducible apply Keeps.drewN) | (with_reducible apply Keeps.drew) | (with_reducible apply Keeps.alloc))))
    (first
    | (go_at_call 35; (refine (Known_any Z p M _ (HPV.out _ (by repeat (first | (with_reducible exact KC.out) | (with_reducible exact Keeps.refl _ _) | (with_reducible apply Keeps.drewN) | (with_reducible apply Keeps.drew) | (with_reducible apply Keeps.alloc))))).mono ?_); rintro e wx ⟨rfl, rfl⟩)
    | (go_at_call 27; (refine (HPG.out _ (HPV.out _ (by repeat (first | (with_reducible exact KC.out) | (with_reducible exact Keeps.refl _ _) | (with_reducible apply Keeps.drewN) | (with_reducible apply Keeps.drew) | (with_reducible apply Keeps.alloc))))).mono ?_); rintro e wg ⟨ga, gc, rfl, oo, hk⟩; have KC2 : Hd (Keeps (fun _ => False) W3x wg) := hid (Keeps.trans (S := fun _ => False) (by repeat (first | (with_reducible exact KC.out) | (with_reducible exact Keeps.refl _ _) | (with_reducible apply Keeps.drewN) | (with_reducible apply Keeps.drew) | (with_reducible apply Keeps.alloc))) hk); have SGA : Hd (∀ X, Keeps (fun _ => False) wg X → Gps (fun _ => True) X (.slice ga G.length gc) G) := hid (fun X hx => Gps.keep (show Gps (fun _ => True) wg (.slice ga G.length gc) G from oo.row.mono (fun _ _ _ => trivial)) hx (fun _ _ _ h => h)); have LG : Hd (Keeps (fun _ => False) wg wg) := hid (Keeps.refl _ _); (try replace LR := hid (Keeps.trans (S := fun _ => False) (by repeat (first | (with_reducible exact LR.out) | (with_reducible exact Keeps.refl _ _) | (with_reducible apply Keeps.drewN) | (with_reducible apply Keeps.drew) | (with_reducible apply Keeps.alloc))) hk)); replace KC := KC2; clear KC2 oo hk)
    | (go_at_call 49; (refine (HRG.out _ (HRV.out _ (by repeat (first | (with_reducible exact KC.out) | (with_reducible exact Keeps.refl _ _) | (with_reducible apply Keeps.drewN) | (with_reducible apply Keeps.drew) | (with_reducible apply Keeps.alloc))))).mono ?_); rintro e wh ⟨gb, gd, rfl, oo, hk⟩; have KC2 : Hd (Keeps (fun _ => False) W3x wh) := hid (Keeps.trans (S := fun _ => False) (by repeat (first | (with_reducible exact KC.out) | (with_reducible exact Keeps.refl _ _) | (with_reducible apply Keeps.drewN) | (with_reducible apply Keeps.drew) | (with_reducible apply Keeps.alloc))) hk); have SGB : Hd (∀ X, Keeps (fun _ => False) wh X → Gps (fun _ => True) X (.slice gb G.length gd) G) := hid (fun X hx => Gps.keep (show Gps (fun _ => True) wh (.slice gb G.length gd) G from oo.row.mono (fun _ _ _ => trivial)) hx (fun _ _ _ h => h)); have LR : Hd (Keeps (fun _ => False) wh wh) := hid (Keeps.refl _ _); (try replace LG := hid (Keeps.trans (S := fun _ => False) (by repeat (first | (with_reducible exact LG.out) | (with_reducible exact Keeps.refl _ _) | (with_reducible apply Keeps.drewN) | (with_reducible apply Keeps.drew) | (with_reducible apply Keeps.alloc))) hk)); replace KC := KC2; clear KC2 oo hk)
    | (go_at_call 36; (refine (SameGaps_any _ _ _ _ G _ (SGA.out _ (by repeat (first | (with_reducible exact LG.out) | (with_reducible exact Keeps.refl _ _) | (with_reducible apply Keeps.drewN) | (with_reducible apply Keeps.drew) | (with_reducible apply Keeps.alloc)))) (SGB.out _ (by repeat (first | (with_reducible exact LR.out) | (with_reducible exact Keeps.refl _ _) | (with_reducible apply Keeps.drewN) | (with_reducible apply Keeps.drew) | (with_reducible apply Keeps.alloc))))).mono ?_); rintro e ws ⟨rfl, hk⟩; have KC2 : Hd (Keeps (fun _ => False) W3x ws) := hid (Keeps.trans (S := fun _ => False) (by repeat (first | (with_reducible exact KC.out) | (with_reducible exact Keeps.refl _ _) | (with_reducible apply Keeps.drewN) | (with_reducible apply Keeps.drew) | (with_reducible apply Keeps.alloc))) hk); replace KC := KC2; clear KC2 hk)
    | (go_at_call 26; (refine (SameBytes_any _ _ _ _ b1.1 b1.1 _ (HV1.out _ (by repeat (first | (with_reducible exact KC.out) | (with_reducible exact Keeps.refl _ _) | (with_reducible apply Keeps.drewN) | (with_reducible apply Keeps.drew) | (with_reducible apply Keeps.alloc)))) (HV2.out _ (by repeat (first | (with_reducible exact KC.out) | (with_reducible exact Keeps.refl _ _) | (with_reducible apply Keeps.drewN) | (with_reducible apply Keeps.drew) | (with_reducible apply Keeps.alloc)))) HBB.out HBB.out).mono ?_); rw [decide_eq_true (rfl : b1.1 = b1.1)]; rintro e wx ⟨rfl, rfl⟩))
  all_goals
    go_wp2
    go_ret
    exact ⟨rfl, HK.out.trans (by repeat (first | (with_reducible exact KC.out) | (with_reducible exact Keeps.refl _ _) | (with_reducible apply Keeps.drewN) | (with_reducible apply Keeps.drew) | (with_reducible apply Keeps.alloc)))⟩
def PutsSt (w : World) (q p : Nat) (Z : Nat → Prop) (M : Pm) (ah : Option Addr) (ch : Nat) (ad : Option Addr) (cd : Nat) (wr : World) : Prop := PartR Z wr p M ∧ RPr (fun b => ¬ Z b ∧ w.heap.size ≤ b ∧ b ≠ q) wr M ah ch ad cd ∧
  Blk wr q #[.int .i64 M.id, .bool M.kn, .int .i64 (M.dt.length : Int), .int .u32 (M.sm : Int), .slice ah M.hv.length ch, .slice ad M.dt.length cd] 61 ∧ ¬ Z q ∧ (∀ b, Z b → w.heap.size ≤ b) ∧ Keeps (fun _ => False) w wr
set_option maxRecDepth 100000 in
set_option maxHeartbeats 4000000 in
theorem puts_any (v1 : Value) (l : List Seg) (id : Int) (w : World) (hN : Cr.Nib w) (h1 : Sgs (fun b => b < w.heap.size) w v1 l) (hl : ∀ x ∈ l, x.okS) :
    Calls Tryd.prog 9 #[.int .i64 id, v1] w fun e w' => e = .returned (.bool true) ∧ Keeps (fun _ => False) w w' := by
  have HN : Hd (NibF w) := hid hN
  have hpos := HN.out.pos
  obtain ⟨la, lc, rfl, q1, q2⟩ := h1.form
  unfold maxLen at q2
  have SL := hid h1; have HLO := hid hl
  clear hN h1 hl
  obtain ⟨n, hn⟩ : ∃ n, l.length = n := ⟨_, rfl⟩
  rw [hn] at SL q1 ⊢
  have HNL := hid hn
  clear hn
  go_enter Tryd.func9, Tryd.ntmps9
  have HN00 := HN; have SL00 := SL
  go_wp2_with fail
  refine (NewPart_any id _).mono ?_
  rintro e W1 ⟨rfl, hp, hk⟩
  have HP := hid hp
  clear hp
  have HN' : Hd (NibF W1) := hid (HN.out.keep hk (fun _ _ _ h => h))
  have SL' : Hd (Sgs (fun b => b < w.heap.size) W1 (.slice la n lc) l) := hid (SL.out.keep hk (fun _ _ _ h => h))
  clear HN SL
  have HN := HN'
  clear HN'
  have SL := SL'
  clear SL'
  have HK : Hd (Keeps (fun _ => False) w W1) := hid hk
  have z_W1 := hk.size
  clear hk
  have lt_p : w.heap.size < W1.heap.size := by obtain ⟨_, _, _, _, hb, _⟩ := HP.out; exact blk_lt hb
  go_wp2_with fail
  refine (RNewPart_any id _).mono ?_
  rintro e W2x ⟨rfl, hk⟩
  have HN' : Hd (NibF W2x) := hid (HN.out.keep hk (fun _ _ _ h => h))
  have SL' : Hd (Sgs (fun b => b < w.heap.size) W2x (.slice la n lc) l) := hid (SL.out.keep hk (fun _ _ _ h => h))
  have HP' : Hd (PartR (fun b => b = w.heap.size) W2x w.heap.size (newM id)) := hid (HP.out.keep hk (fun _ _ _ h => h))
  clear HN SL HP
  have HN := HN'
  clear HN'
  have SL := SL'
  clear SL'
  have HP := HP'
  clear HP'
  have HK' : Hd (Keeps (fun _ => False) w W2x) := hid (HK.out.trans hk)
  clear HK
  have HK := HK'
  clear HK'
  have z_W2x := hk.size
  clear hk
  go_upto_region 3 with fail
  generalize hW : World.alloc W2x _ = W2
  have KS : Hd (Keeps (fun _ => False) W2x W2) := hid (by rw [← hW]; exact (Keeps.alloc (Keeps.refl (fun _ => False) W2x) _))
  have HN' : Hd (NibF W2) := hid (HN.out.keep KS.out (fun _ _ _ h => h))
  have SL' : Hd (Sgs (fun b => b < w.heap.size) W2 (.slice la n lc) l) := hid (SL.out.keep KS.out (fun _ _ _ h => h))
  have HP' : Hd (PartR (fun b => b = w.heap.size) W2 w.heap.size (newM id)) := hid (HP.out.keep KS.out (fun _ _ _ h => h))
  have BQ : Hd (Blk W2 W2x.heap.size #[(.int .i64 id), (.bool false), (.int .i64 0), (.int .u32 0), (.slice none 0 0), (.slice none 0 0)] 61) := hid (by rw [← hW]; exact (blk_new _ _ _))
  clear HN SL HP
  have HN := HN'
  clear HN'
  have SL := SL'
  clear SL'
  have HP := HP'
  clear HP'
  have HK' : Hd (Keeps (fun _ => False) w W2) := hid (HK.out.trans KS.out)
  clear HK
  have HK := HK'
  clear HK'
  have z_W2 : W2x.heap.size + 1 ≤ W2.heap.size := by rw [← hW]; simp
  clear hW KS
  go_wp2_with fail
  go_loopw [7] (fun iv wr => ∃ (i : Nat) (M : Pm) (ah : Option Addr) (ch : Nat) (ad : Option Addr) (cd : Nat) (Z : Nat → Prop), iv = .int .i64 i ∧ i ≤ 30 ∧ i ≤ n ∧ Hd (M.ok) ∧ Hd (PutsSt w W2x.heap.size (w.heap.size) Z M ah ch ad cd wr)) (fun iv _ => 30 - (intOf iv).toNat)
  case atStart => exact ⟨0, newM id, none, 0, none, 0, (fun b => b = w.heap.size), rfl, by omega, by omega, hid (newM_ok id), hid ⟨HP.out, ⟨⟨rfl, .inl ⟨rfl, rfl⟩⟩, ⟨rfl, .inl ⟨rfl, rfl⟩⟩⟩, BQ.out, fun h => by omega, fun b h => by omega, HK.out⟩⟩
  case round =>
    obtain ⟨V, hV⟩ : ∃ V, V = wr := ⟨_, rfl⟩
    subst hV
    obtain ⟨i, M, ah, ch, ad, cd, Z, rfl, hi30, hin, HOK, PS⟩ := hrel
    clear HN SL HP BQ HK
    obtain ⟨ps1, ps2, ps3, ps4, ps5, ps6⟩ := PS.out
    have HK := hid ps6
    have HN : Hd (NibF V) := hid (HN00.out.keep ps6 (fun _ _ _ h => h))
    have SL : Hd (Sgs (fun b => b < w.heap.size) V (.slice la n lc) l) := hid (SL00.out.keep ps6 (fun _ _ _ h => h))
    have zV := ps6.size
    have HP : Hd (PartR (fun b => Z b ∧ b < V.heap.size) V (w.heap.size) M) := hid (ps1.mono (fun b hb h => ⟨h, hb⟩))
    have HRR : Hd (RPr (fun b => ¬ Z b ∧ w.heap.size ≤ b ∧ b ≠ W2x.heap.size ∧ b < V.heap.size) V M ah ch ad cd) := hid (ps2.mono (fun b hb h => ⟨h.1, h.2.1, h.2.2, hb⟩))
    have BQ := hid ps3
    have HZQ := hid ps4; have HZW := hid ps5
    have lt_q := blk_lt ps3
    clear ps1 ps2 ps3 ps4 ps5 ps6 PS
    by_cases hgo : i < n ∧ i < 30
    · obtain ⟨hg1, hg2⟩ := hgo
      have hi1 : (i : Int) < n := by omega
      have hi2 : (i : Int) < 30 := by omega
      have hi3 : (0 : Int) ≤ i := by omega
      obtain ⟨y0, hy0⟩ : ∃ y, l[i]? = some y := ⟨l[i]'(by rw [HNL.out]; exact hg1), List.getElem?_eq_getElem _⟩
      obtain ⟨bx, ox, rfl, hbx, hbx2, hcx⟩ := sgs_cells SL.out (by rw [HNL.out]; omega)
      obtain ⟨x0, x1, x2, x3, sa, sc, x4, SX⟩ := hcx i y0 hy0
      have HY := hid SX
      have HOY := hid (HLO.out y0 (List.mem_of_getElem? hy0))
      clear hcx SX hy0
      have hT := hid (show capT y0.t = if 700 < y0.t ∧ y0.t ≤ 65536 then 700 else y0.t from rfl)
      obtain ⟨T0, hT0⟩ : ∃ T0, capT y0.t = T0 := ⟨_, rfl⟩
      obtain ⟨t0, ht0⟩ : ∃ t0, y0.t = t0 := ⟨_, rfl⟩
      rw [hT0, ht0] at hT
      obtain ⟨y, hyy⟩ : ∃ y : Seg, ⟨y0.f, y0.o, T0, y0.s, y0.d⟩ = y := ⟨_, rfl⟩
      have HYD : Hd (y.f = y0.f ∧ y.o = y0.o ∧ y.t = T0 ∧ y.s = y0.s ∧ y.d = y0.d) := hid (by rw [← hyy]; exact ⟨rfl, rfl, rfl, rfl, rfl⟩)
      clear hyy hT0
      rw [ht0] at x2
      have HT0 := hid ht0
      clear ht0
      go_upto_region 9 with fail
      clear x0 x1 x2 x3 x4
      generalize hW : World.alloc V _ = W3
      have KS : Hd (Keeps (fun _ => False) V W3) := hid (by rw [← hW]; exact (Keeps.alloc (Keeps.refl (fun _ => False) V) _))
      have HN' : Hd (NibF W3) := hid (HN.out.keep KS.out (fun _ _ _ h => h))
      have SL' : Hd (Sgs (fun b => b < w.heap.size) W3 (.slice (some ⟨bx, ox, none⟩) n lc) l) := hid (SL.out.keep KS.out (fun _ _ _ h => h))
      have HP' : Hd (PartR (fun b => Z b ∧ b < V.heap.size) W3 (w.heap.size) M) := hid (HP.out.keep KS.out (fun _ _ _ h => h))
      have HRR' : Hd (RPr (fun b => ¬ Z b ∧ w.heap.size ≤ b ∧ b ≠ W2x.heap.size ∧ b < V.heap.size) W3 M ah ch ad cd) := hid (HRR.out.keep KS.out (fun _ _ _ h => h))
      have BQ' : Hd (Blk W3 W2x.heap.size #[(.int .i64 M.id), (.bool M.kn), (.int .i64 (M.dt.length : Int)), (.int .u32 (M.sm : Int)), (.slice ah M.hv.length ch), (.slice ad M.dt.length cd)] 61) := hid (by rw [← hW]; exact (blk_alloc BQ.out _))
      have HY' : Hd (Sl (fun b => b < w.heap.size) W3 (.slice sa y0.d.length sc) (u8s y0.d)) := hid (HY.out.keep KS.out (fun _ _ _ h => h))
      have BS : Hd (Blk W3 V.heap.size #[(.int .i64 y0.f), (.int .i64 y0.o), (.int .i64 t0), (.int .u32 (y0.s : Int)), (.slice sa y0.d.length sc)] 44) := hid (by rw [← hW]; exact (blk_new _ _ _))
      clear HN SL HP HRR BQ HY
      have HN := HN'
      clear HN'
      have SL := SL'
      clear SL'
      have HP := HP'
      clear HP'
      have HRR := HRR'
      clear HRR'
      have BQ := BQ'
      clear BQ'
      have HY := HY'
      clear HY'
      have HK' : Hd (Keeps (fun _ => False) w W3) := hid (HK.out.trans KS.out)
      clear HK
      have HK := HK'
      clear HK'
      have z_W3 : V.heap.size + 1 ≤ W3.heap.size := by rw [← hW]; simp
      clear hW KS
      by_cases t1 : 700 < t0
      · by_cases t2 : t0 ≤ 65536
        · have eT : 700 = T0 := by rw [hT.out, if_pos ⟨t1, t2⟩]
          subst eT
          have o_BS_2 : W3.cell? ⟨V.heap.size, 2, none⟩ = some ((.int .i64 t0)) := blk_cell BS.out 2
          have f_BS_2 : W3.frozen? ⟨V.heap.size, 2, none⟩ = false := blk_free BS.out 2
          go_upto_region 11 with fail
          clear o_BS_2 f_BS_2
          generalize hW : World.setCell W3 _ _ = W4
          have KS : Hd (Keeps (fun b => b = V.heap.size) W3 W4) := hid (by rw [← hW]; exact (Keeps.setCell (S := fun b => b = V.heap.size) (Keeps.refl (fun b => b = V.heap.size) W3) (.inl rfl) _))
          have HN' : Hd (NibF W4) := hid (HN.out.keep KS.out (fun b _ h1 h2 => by omega))
          have SL' : Hd (Sgs (fun b => b < w.heap.size) W4 (.slice (some ⟨bx, ox, none⟩) n lc) l) := hid (SL.out.keep KS.out (fun b _ h1 h2 => by omega))
          have HP' : Hd (PartR (fun b => Z b ∧ b < V.heap.size) W4 (w.heap.size) M) := hid (HP.out.keep KS.out (fun b _ h1 h2 => by omega))
          have HRR' : Hd (RPr (fun b => ¬ Z b ∧ w.heap.size ≤ b ∧ b ≠ W2x.heap.size ∧ b < V.heap.size) W4 M ah ch ad cd) := hid (HRR.out.keep KS.out (fun b _ h1 h2 => by omega))
          have BQ' : Hd (Blk W4 W2x.heap.size #[(.int .i64 M.id), (.bool M.kn), (.int .i64 (M.dt.length : Int)), (.int .u32 (M.sm : Int)), (.slice ah M.hv.length ch), (.slice ad M.dt.length cd)] 61) := hid (by rw [← hW]; exact (blk_other BQ.out (by omega) _ _))
          have HY' : Hd (Sl (fun b => b < w.heap.size) W4 (.slice sa y0.d.length sc) (u8s y0.d)) := hid (HY.out.keep KS.out (fun b _ h1 h2 => by omega))
          have BS' : Hd (Blk W4 V.heap.size #[(.int .i64 y0.f), (.int .i64 y0.o), (.int .i64 700), (.int .u32 (y0.s : Int)), (.slice sa y0.d.length sc)] 44) := hid (by rw [← hW]; exact (blk_set BS.out 2 _))
          clear HN SL HP HRR BQ HY BS
          have HN := HN'
          clear HN'
          have SL := SL'
          clear SL'
          have HP := HP'
          clear HP'
          have HRR := HRR'
          clear HRR'
          have BQ := BQ'
          clear BQ'
          have HY := HY'
          clear HY'
          have BS := BS'
          clear BS'
          have HK' : Hd (Keeps (fun _ => False) w W4) := hid (HK.out.trans' KS.out (fun i hi h => by omega))
          clear HK
          have HK := HK'
          clear HK'
          have z_W4 : W3.heap.size + 0 ≤ W4.heap.size := by rw [← hW]; simp
          clear hW KS
          have BSN : Hd (Blk W4 V.heap.size #[.int .i64 y.f, .int .i64 y.o, .int .i64 y.t, .int .u32 (y.s : Int), .slice sa y.d.length sc] 44) := hid (by obtain ⟨d0, d1, d2, d3, d4⟩ := HYD.out; rw [d0, d1, d2, d3, d4]; exact BS.out)
          clear BS
          have BS := BSN
          clear BSN
          obtain ⟨V11, hV11⟩ : ∃ V, V = W4 := ⟨_, rfl⟩
          subst hV11
          have HYT : Hd (-9223372036854775808 ≤ y.t ∧ y.t ≤ 9223372036854775807) := hid (by rw [HYD.out.2.2.1, hT.out]; have := HOY.out.t; rw [HT0.out] at this; split <;> omega)
          have HYN : Hd (Sl (fun b => b < w.heap.size) V11 (.slice sa y.d.length sc) (u8s y.d)) := hid (by rw [HYD.out.2.2.2.2]; exact HY.out)
          clear HY
          have HY := HYN
          clear HYN
          have HYB : Hd (∀ c ∈ y.d, c < 256) := hid (by rw [HYD.out.2.2.2.2]; exact HOY.out.d)
          have HY32 : Hd (y.s < 4294967296) := hid (by rw [HYD.out.2.2.2.1]; exact HOY.out.s)
          clear hT HYD HT0 HOY; try clear t1; try clear t2
          obtain ⟨E, hE⟩ : ∃ E, putE M y = E := ⟨_, rfl⟩
          obtain ⟨M2, hM2⟩ : ∃ M2, putM M y = M2 := ⟨_, rfl⟩
          have HE := hid hE; have HM2 := hid hM2; have HOK2 : Hd M2.ok := hid (by rw [← hM2]; exact putM_ok HOK.out HY32.out HYB.out)
          clear hE hM2
          go_upto_region 11 with fail
          have o_BS_0 : V11.cell? ⟨V.heap.size, 0, none⟩ = some ((.int .i64 y.f)) := blk_cell BS.out 0
          have o_BS_1 : V11.cell? ⟨V.heap.size, 1, none⟩ = some ((.int .i64 y.o)) := blk_cell BS.out 1
          have o_BS_2 : V11.cell? ⟨V.heap.size, 2, none⟩ = some ((.int .i64 y.t)) := blk_cell BS.out 2
          have o_BS_3 : V11.cell? ⟨V.heap.size, 3, none⟩ = some ((.int .u32 (y.s : Int))) := blk_cell BS.out 3
          have o_BS_4 : V11.cell? ⟨V.heap.size, 4, none⟩ = some ((.slice sa y.d.length sc)) := blk_cell BS.out 4
          go_wp2_with fail
          refine (Put_any _ _ M y sa sc _ HP.out HOK.out (HY.out.mono (fun b hb h => ⟨fun h2 => by have := HZW.out b h2.1; omega, hb⟩)) HYB.out HY32.out).mono ?_
          rintro e V2 ⟨rfl, hp2, hk⟩
          rw [HE.out]
          rw [HM2.out] at hp2
          have HPN := hid (hp2.mono (Z' := fun b => (((Z b ∧ b < V.heap.size) ∨ V11.heap.size ≤ b) ∧ b < V2.heap.size)) (fun b hb h => ⟨h, hb⟩))
          clear hp2 HP
          clear o_BS_0 o_BS_1 o_BS_2 o_BS_3 o_BS_4
          have HN' : Hd (NibF V2) := hid (HN.out.keep hk (fun b h1 h2 h3 => by have := HZW.out b h3.1; omega))
          have SL' : Hd (Sgs (fun b => b < w.heap.size) V2 (.slice (some ⟨bx, ox, none⟩) n lc) l) := hid (SL.out.keep hk (fun b h1 h2 h3 => by have := HZW.out b h3.1; omega))
          have HRR' : Hd (RPr (fun b => ¬ Z b ∧ w.heap.size ≤ b ∧ b ≠ W2x.heap.size ∧ b < V.heap.size) V2 M ah ch ad cd) := hid (HRR.out.keep hk (fun b h1 h2 h3 => h2.1 h3.1))
          have BQ' : Hd (Blk V2 W2x.heap.size #[(.int .i64 M.id), (.bool M.kn), (.int .i64 (M.dt.length : Int)), (.int .u32 (M.sm : Int)), (.slice ah M.hv.length ch), (.slice ad M.dt.length cd)] 61) := hid (blk_keep BQ.out hk (fun h => HZQ.out h.1))
          have HY' : Hd (Sl (fun b => b < w.heap.size) V2 (.slice sa y.d.length sc) (u8s y.d)) := hid (HY.out.keep hk (fun b h1 h2 h3 => by have := HZW.out b h3.1; omega))
          have BS' : Hd (Blk V2 V.heap.size #[(.int .i64 y.f), (.int .i64 y.o), (.int .i64 y.t), (.int .u32 (y.s : Int)), (.slice sa y.d.length sc)] 44) := hid (blk_keep BS.out hk (fun h => by omega))
          clear HN SL HRR BQ HY BS
          have HN := HN'
          clear HN'
          have SL := SL'
          clear SL'
          have HRR := HRR'
          clear HRR'
          have BQ := BQ'
          clear BQ'
          have HY := HY'
          clear HY'
          have BS := BS'
          clear BS'
          have HK' : Hd (Keeps (fun _ => False) w V2) := hid (HK.out.trans' hk (fun b hb h => by have := HZW.out b h.1; omega))
          clear HK
          have HK := HK'
          clear HK'
          have z_V2 := hk.size
          clear hk
          have HP := HPN
          clear HPN
          have o_BQ_0 : V2.cell? ⟨W2x.heap.size, 0, none⟩ = some ((.int .i64 M.id)) := blk_cell BQ.out 0
          have o_BQ_1 : V2.cell? ⟨W2x.heap.size, 1, none⟩ = some ((.bool M.kn)) := blk_cell BQ.out 1
          have o_BQ_2 : V2.cell? ⟨W2x.heap.size, 2, none⟩ = some ((.int .i64 (M.dt.length : Int))) := blk_cell BQ.out 2
          have o_BQ_3 : V2.cell? ⟨W2x.heap.size, 3, none⟩ = some ((.int .u32 (M.sm : Int))) := blk_cell BQ.out 3
          have o_BQ_4 : V2.cell? ⟨W2x.heap.size, 4, none⟩ = some ((.slice ah M.hv.length ch)) := blk_cell BQ.out 4
          have o_BQ_5 : V2.cell? ⟨W2x.heap.size, 5, none⟩ = some ((.slice ad M.dt.length cd)) := blk_cell BQ.out 5
          have o_BS_0 : V2.cell? ⟨V.heap.size, 0, none⟩ = some ((.int .i64 y.f)) := blk_cell BS.out 0
          have o_BS_1 : V2.cell? ⟨V.heap.size, 1, none⟩ = some ((.int .i64 y.o)) := blk_cell BS.out 1
          have o_BS_2 : V2.cell? ⟨V.heap.size, 2, none⟩ = some ((.int .i64 y.t)) := blk_cell BS.out 2
          have o_BS_3 : V2.cell? ⟨V.heap.size, 3, none⟩ = some ((.int .u32 (y.s : Int))) := blk_cell BS.out 3
          have o_BS_4 : V2.cell? ⟨V.heap.size, 4, none⟩ = some ((.slice sa y.d.length sc)) := blk_cell BS.out 4
          have hcall := RPut_any _ M ah ch ad cd y sa sc _ HOK.out HRR.out (HY.out.mono (K' := fun b => b < V2.heap.size) (fun b hb _ => hb)) HYB.out HY32.out HYT.out
          rw [HE.out, HM2.out] at hcall
          have HC := hid hcall
          clear hcall
          go_wp2_with fail
          refine (HC.out).mono ?_
          rintro e V3 ⟨ah2, ch2, ad2, cd2, rfl, hr2, hk⟩
          have HR2 := hid (hr2.mono (K' := fun b => ¬ (((Z b ∧ b < V.heap.size) ∨ V11.heap.size ≤ b) ∧ b < V2.heap.size) ∧ w.heap.size ≤ b ∧ b ≠ W2x.heap.size) (fun b _ h => by rcases h with h | h; exact ⟨fun h2 => by rcases h2.1 with h3 | h3; exact h.1 h3.1; omega, h.2.1, h.2.2.1⟩; exact ⟨fun h2 => by omega, by omega, by omega⟩))
          clear hr2 HC
          clear HRR
          clear o_BQ_0 o_BQ_1 o_BQ_2 o_BQ_3 o_BQ_4 o_BQ_5 o_BS_0 o_BS_1 o_BS_2 o_BS_3 o_BS_4
          have HN' : Hd (NibF V3) := hid (HN.out.keep hk (fun _ _ _ h => h))
          have SL' : Hd (Sgs (fun b => b < w.heap.size) V3 (.slice (some ⟨bx, ox, none⟩) n lc) l) := hid (SL.out.keep hk (fun _ _ _ h => h))
          have BQ' : Hd (Blk V3 W2x.heap.size #[(.int .i64 M.id), (.bool M.kn), (.int .i64 (M.dt.length : Int)), (.int .u32 (M.sm : Int)), (.slice ah M.hv.length ch), (.slice ad M.dt.length cd)] 61) := hid (blk_keep BQ.out hk (fun h => h))
          have HY' : Hd (Sl (fun b => b < w.heap.size) V3 (.slice sa y.d.length sc) (u8s y.d)) := hid (HY.out.keep hk (fun _ _ _ h => h))
          have BS' : Hd (Blk V3 V.heap.size #[(.int .i64 y.f), (.int .i64 y.o), (.int .i64 y.t), (.int .u32 (y.s : Int)), (.slice sa y.d.length sc)] 44) := hid (blk_keep BS.out hk (fun h => h))
          have HP' : Hd (PartR (fun b => (((Z b ∧ b < V.heap.size) ∨ V11.heap.size ≤ b) ∧ b < V2.heap.size)) V3 (w.heap.size) M2) := hid (HP.out.keep hk (fun _ _ _ h => h))
          clear HN SL BQ HY BS HP
          have HN := HN'
          clear HN'
          have SL := SL'
          clear SL'
          have BQ := BQ'
          clear BQ'
          have HY := HY'
          clear HY'
          have BS := BS'
          clear BS'
          have HP := HP'
          clear HP'
          have HK' : Hd (Keeps (fun _ => False) w V3) := hid (HK.out.trans hk)
          clear HK
          have HK := HK'
          clear HK'
          have z_V3 := hk.size
          clear hk
          go_upto_region 13 with fail
          generalize hW : World.alloc V3 _ = W5
          have KS : Hd (Keeps (fun _ => False) V3 W5) := hid (by rw [← hW]; exact (Keeps.alloc (Keeps.refl (fun _ => False) V3) _))
          have HN' : Hd (NibF W5) := hid (HN.out.keep KS.out (fun _ _ _ h => h))
          have SL' : Hd (Sgs (fun b => b < w.heap.size) W5 (.slice (some ⟨bx, ox, none⟩) n lc) l) := hid (SL.out.keep KS.out (fun _ _ _ h => h))
          have BQ' : Hd (Blk W5 W2x.heap.size #[(.int .i64 M.id), (.bool M.kn), (.int .i64 (M.dt.length : Int)), (.int .u32 (M.sm : Int)), (.slice ah M.hv.length ch), (.slice ad M.dt.length cd)] 61) := hid (by rw [← hW]; exact (blk_alloc BQ.out _))
          have HY' : Hd (Sl (fun b => b < w.heap.size) W5 (.slice sa y.d.length sc) (u8s y.d)) := hid (HY.out.keep KS.out (fun _ _ _ h => h))
          have BS' : Hd (Blk W5 V.heap.size #[(.int .i64 y.f), (.int .i64 y.o), (.int .i64 y.t), (.int .u32 (y.s : Int)), (.slice sa y.d.length sc)] 44) := hid (by rw [← hW]; exact (blk_alloc BS.out _))
          have HP' : Hd (PartR (fun b => (((Z b ∧ b < V.heap.size) ∨ V11.heap.size ≤ b) ∧ b < V2.heap.size)) W5 (w.heap.size) M2) := hid (HP.out.keep KS.out (fun _ _ _ h => h))
          have HR2' : Hd (RPr (fun b => ¬ (((Z b ∧ b < V.heap.size) ∨ V11.heap.size ≤ b) ∧ b < V2.heap.size) ∧ w.heap.size ≤ b ∧ b ≠ W2x.heap.size) W5 M2 ah2 ch2 ad2 cd2) := hid (HR2.out.keep KS.out (fun _ _ _ h => h))
          have BN : Hd (Blk W5 V3.heap.size #[(.int .i64 M2.id), (.bool M2.kn), (.int .i64 (M2.dt.length : Int)), (.int .u32 (M2.sm : Int)), (.slice ah2 M2.hv.length ch2), (.slice ad2 M2.dt.length cd2)] 61) := hid (by rw [← hW]; exact (blk_new _ _ _))
          clear HN SL BQ HY BS HP HR2
          have HN := HN'
          clear HN'
          have SL := SL'
          clear SL'
          have BQ := BQ'
          clear BQ'
          have HY := HY'
          clear HY'
          have BS := BS'
          clear BS'
          have HP := HP'
          clear HP'
          have HR2 := HR2'
          clear HR2'
          have HK' : Hd (Keeps (fun _ => False) w W5) := hid (HK.out.trans KS.out)
          clear HK
          have HK := HK'
          clear HK'
          have z_W5 : V3.heap.size + 1 ≤ W5.heap.size := by rw [← hW]; simp
          clear hW KS
          have o_BN_0 : W5.cell? ⟨V3.heap.size, 0, none⟩ = some ((.int .i64 M2.id)) := blk_cell BN.out 0
          have o_BN_1 : W5.cell? ⟨V3.heap.size, 1, none⟩ = some ((.bool M2.kn)) := blk_cell BN.out 1
          have o_BN_2 : W5.cell? ⟨V3.heap.size, 2, none⟩ = some ((.int .i64 (M2.dt.length : Int))) := blk_cell BN.out 2
          have o_BN_3 : W5.cell? ⟨V3.heap.size, 3, none⟩ = some ((.int .u32 (M2.sm : Int))) := blk_cell BN.out 3
          have o_BN_4 : W5.cell? ⟨V3.heap.size, 4, none⟩ = some ((.slice ah2 M2.hv.length ch2)) := blk_cell BN.out 4
          have o_BN_5 : W5.cell? ⟨V3.heap.size, 5, none⟩ = some ((.slice ad2 M2.dt.length cd2)) := blk_cell BN.out 5
          have o_BQ_0 : W5.cell? ⟨W2x.heap.size, 0, none⟩ = some ((.int .i64 M.id)) := blk_cell BQ.out 0
          have o_BQ_1 : W5.cell? ⟨W2x.heap.size, 1, none⟩ = some ((.bool M.kn)) := blk_cell BQ.out 1
          have o_BQ_2 : W5.cell? ⟨W2x.heap.size, 2, none⟩ = some ((.int .i64 (M.dt.length : Int))) := blk_cell BQ.out 2
          have o_BQ_3 : W5.cell? ⟨W2x.heap.size, 3, none⟩ = some ((.int .u32 (M.sm : Int))) := blk_cell BQ.out 3
          have o_BQ_4 : W5.cell? ⟨W2x.heap.size, 4, none⟩ = some ((.slice ah M.hv.length ch)) := blk_cell BQ.out 4
          have o_BQ_5 : W5.cell? ⟨W2x.heap.size, 5, none⟩ = some ((.slice ad M.dt.length cd)) := blk_cell BQ.out 5
          have f_BQ_0 : W5.frozen? ⟨W2x.heap.size, 0, none⟩ = false := blk_free BQ.out 0
          have f_BQ_1 : W5.frozen? ⟨W2x.heap.size, 1, none⟩ = false := blk_free BQ.out 1
          have f_BQ_2 : W5.frozen? ⟨W2x.heap.size, 2, none⟩ = false := blk_free BQ.out 2
          have f_BQ_3 : W5.frozen? ⟨W2x.heap.size, 3, none⟩ = false := blk_free BQ.out 3
          have f_BQ_4 : W5.frozen? ⟨W2x.heap.size, 4, none⟩ = false := blk_free BQ.out 4
          have f_BQ_5 : W5.frozen? ⟨W2x.heap.size, 5, none⟩ = false := blk_free BQ.out 5
          go_upto_region 14 with fail
          clear o_BN_0 o_BN_1 o_BN_2 o_BN_3 o_BN_4 o_BN_5 o_BQ_0 o_BQ_1 o_BQ_2 o_BQ_3 o_BQ_4 o_BQ_5 f_BQ_0 f_BQ_1 f_BQ_2 f_BQ_3 f_BQ_4 f_BQ_5
          generalize hW : World.setCell (World.setCell (World.setCell (World.setCell (World.setCell (World.setCell W5 _ _) _ _) _ _) _ _) _ _) _ _ = W6
          have KS : Hd (Keeps (fun b => b = W2x.heap.size) W5 W6) := hid (by rw [← hW]; exact (Keeps.setCell (S := fun b => b = W2x.heap.size) (Keeps.setCell (S := fun b => b = W2x.heap.size) (Keeps.setCell (S := fun b => b = W2x.heap.size) (Keeps.setCell (S := fun b => b = W2x.heap.size) (Keeps.setCell (S := fun b => b = W2x.heap.size) (Keeps.setCell (S := fun b => b = W2x.heap.size) (Keeps.refl (fun b => b = W2x.heap.size) W5) (.inl rfl) _) (.inl rfl) _) (.inl rfl) _) (.inl rfl) _) (.inl rfl) _) (.inl rfl) _))
          have HN' : Hd (NibF W6) := hid (HN.out.keep KS.out (fun b _ h1 h2 => by omega))
          have SL' : Hd (Sgs (fun b => b < w.heap.size) W6 (.slice (some ⟨bx, ox, none⟩) n lc) l) := hid (SL.out.keep KS.out (fun b _ h1 h2 => by omega))
          have BQ' : Hd (Blk W6 W2x.heap.size #[(.int .i64 M2.id), (.bool M2.kn), (.int .i64 (M2.dt.length : Int)), (.int .u32 (M2.sm : Int)), (.slice ah2 M2.hv.length ch2), (.slice ad2 M2.dt.length cd2)] 61) := hid (by rw [← hW]; exact (blk_set (blk_set (blk_set (blk_set (blk_set (blk_set BQ.out 0 _) 1 _) 2 _) 3 _) 4 _) 5 _))
          have HY' : Hd (Sl (fun b => b < w.heap.size) W6 (.slice sa y.d.length sc) (u8s y.d)) := hid (HY.out.keep KS.out (fun b _ h1 h2 => by omega))
          have BS' : Hd (Blk W6 V.heap.size #[(.int .i64 y.f), (.int .i64 y.o), (.int .i64 y.t), (.int .u32 (y.s : Int)), (.slice sa y.d.length sc)] 44) := hid (by rw [← hW]; exact (blk_other (blk_other (blk_other (blk_other (blk_other (blk_other BS.out (by omega) _ _) (by omega) _ _) (by omega) _ _) (by omega) _ _) (by omega) _ _) (by omega) _ _))
          have HP' : Hd (PartR (fun b => (((Z b ∧ b < V.heap.size) ∨ V11.heap.size ≤ b) ∧ b < V2.heap.size)) W6 (w.heap.size) M2) := hid (HP.out.keep KS.out (fun b _ h1 h2 => by subst h2; rcases h1.1 with h3 | h3; exact HZQ.out h3.1; omega))
          have HR2' : Hd (RPr (fun b => ¬ (((Z b ∧ b < V.heap.size) ∨ V11.heap.size ≤ b) ∧ b < V2.heap.size) ∧ w.heap.size ≤ b ∧ b ≠ W2x.heap.size) W6 M2 ah2 ch2 ad2 cd2) := hid (HR2.out.keep KS.out (fun b _ h1 h2 => by omega))
          have BN' : Hd (Blk W6 V3.heap.size #[(.int .i64 M2.id), (.bool M2.kn), (.int .i64 (M2.dt.length : Int)), (.int .u32 (M2.sm : Int)), (.slice ah2 M2.hv.length ch2), (.slice ad2 M2.dt.length cd2)] 61) := hid (by rw [← hW]; exact (blk_other (blk_other (blk_other (blk_other (blk_other (blk_other BN.out (by omega) _ _) (by omega) _ _) (by omega) _ _) (by omega) _ _) (by omega) _ _) (by omega) _ _))
          clear HN SL BQ HY BS HP HR2 BN
          have HN := HN'
          clear HN'
          have SL := SL'
          clear SL'
          have BQ := BQ'
          clear BQ'
          have HY := HY'
          clear HY'
          have BS := BS'
          clear BS'
          have HP := HP'
          clear HP'
          have HR2 := HR2'
          clear HR2'
          have BN := BN'
          clear BN'
          have HK' : Hd (Keeps (fun _ => False) w W6) := hid (HK.out.trans' KS.out (fun i hi h => by omega))
          clear HK
          have HK := HK'
          clear HK'
          have z_W6 : W5.heap.size + 0 ≤ W6.heap.size := by rw [← hW]; simp
          clear hW KS
          have o_BQ_0 : W6.cell? ⟨W2x.heap.size, 0, none⟩ = some ((.int .i64 M2.id)) := blk_cell BQ.out 0
          have o_BQ_1 : W6.cell? ⟨W2x.heap.size, 1, none⟩ = some ((.bool M2.kn)) := blk_cell BQ.out 1
          have o_BQ_2 : W6.cell? ⟨W2x.heap.size, 2, none⟩ = some ((.int .i64 (M2.dt.length : Int))) := blk_cell BQ.out 2
          have o_BQ_3 : W6.cell? ⟨W2x.heap.size, 3, none⟩ = some ((.int .u32 (M2.sm : Int))) := blk_cell BQ.out 3
          have o_BQ_4 : W6.cell? ⟨W2x.heap.size, 4, none⟩ = some ((.slice ah2 M2.hv.length ch2)) := blk_cell BQ.out 4
          have o_BQ_5 : W6.cell? ⟨W2x.heap.size, 5, none⟩ = some ((.slice ad2 M2.dt.length cd2)) := blk_cell BQ.out 5
          have ee : (E != E) = false := by simp
          go_wp2_with fail
          refine (same_any _ _ _ M2 ah2 ch2 ad2 cd2 _ HN.out HP.out HOK2.out HR2.out).mono ?_
          rintro e W7 ⟨rfl, hk⟩
          clear o_BQ_0 o_BQ_1 o_BQ_2 o_BQ_3 o_BQ_4 o_BQ_5
          have HN' : Hd (NibF W7) := hid (HN.out.keep hk (fun _ _ _ h => h))
          have SL' : Hd (Sgs (fun b => b < w.heap.size) W7 (.slice (some ⟨bx, ox, none⟩) n lc) l) := hid (SL.out.keep hk (fun _ _ _ h => h))
          have BQ' : Hd (Blk W7 W2x.heap.size #[(.int .i64 M2.id), (.bool M2.kn), (.int .i64 (M2.dt.length : Int)), (.int .u32 (M2.sm : Int)), (.slice ah2 M2.hv.length ch2), (.slice ad2 M2.dt.length cd2)] 61) := hid (blk_keep BQ.out hk (fun h => h))
          have HY' : Hd (Sl (fun b => b < w.heap.size) W7 (.slice sa y.d.length sc) (u8s y.d)) := hid (HY.out.keep hk (fun _ _ _ h => h))
          have BS' : Hd (Blk W7 V.heap.size #[(.int .i64 y.f), (.int .i64 y.o), (.int .i64 y.t), (.int .u32 (y.s : Int)), (.slice sa y.d.length sc)] 44) := hid (blk_keep BS.out hk (fun h => h))
          have HP' : Hd (PartR (fun b => (((Z b ∧ b < V.heap.size) ∨ V11.heap.size ≤ b) ∧ b < V2.heap.size)) W7 (w.heap.size) M2) := hid (HP.out.keep hk (fun _ _ _ h => h))
          have HR2' : Hd (RPr (fun b => ¬ (((Z b ∧ b < V.heap.size) ∨ V11.heap.size ≤ b) ∧ b < V2.heap.size) ∧ w.heap.size ≤ b ∧ b ≠ W2x.heap.size) W7 M2 ah2 ch2 ad2 cd2) := hid (HR2.out.keep hk (fun _ _ _ h => h))
          have BN' : Hd (Blk W7 V3.heap.size #[(.int .i64 M2.id), (.bool M2.kn), (.int .i64 (M2.dt.length : Int)), (.int .u32 (M2.sm : Int)), (.slice ah2 M2.hv.length ch2), (.slice ad2 M2.dt.length cd2)] 61) := hid (blk_keep BN.out hk (fun h => h))
          clear HN SL BQ HY BS HP HR2 BN
          have HN := HN'
          clear HN'
          have SL := SL'
          clear SL'
          have BQ := BQ'
          clear BQ'
          have HY := HY'
          clear HY'
          have BS := BS'
          clear BS'
          have HP := HP'
          clear HP'
          have HR2 := HR2'
          clear HR2'
          have BN := BN'
          clear BN'
          have HK' : Hd (Keeps (fun _ => False) w W7) := hid (HK.out.trans hk)
          clear HK
          have HK := HK'
          clear HK'
          have z_W7 := hk.size
          clear hk
          go_wp2_with fail
          go_roundw
          case rel => exact ⟨i + 1, M2, ah2, ch2, ad2, cd2, _, by go_num, by omega, by omega, HOK2, hid ⟨HP.out, HR2.out, BQ.out, fun h => by rcases h.1 with h2 | h2; exact HZQ.out h2.1; omega, fun b h => by rcases h.1 with h2 | h2; exact HZW.out b h2.1; omega, HK.out⟩⟩
          case measure => simp [intOf]; omega
        · have eT : t0 = T0 := by rw [hT.out, if_neg (fun h => by omega)]
          subst eT
          have o_BS_2 : W3.cell? ⟨V.heap.size, 2, none⟩ = some ((.int .i64 t0)) := blk_cell BS.out 2
          have f_BS_2 : W3.frozen? ⟨V.heap.size, 2, none⟩ = false := blk_free BS.out 2
          go_upto_region 11 with fail
          clear o_BS_2 f_BS_2
          have BSN : Hd (Blk W3 V.heap.size #[.int .i64 y.f, .int .i64 y.o, .int .i64 y.t, .int .u32 (y.s : Int), .slice sa y.d.length sc] 44) := hid (by obtain ⟨d0, d1, d2, d3, d4⟩ := HYD.out; rw [d0, d1, d2, d3, d4]; exact BS.out)
          clear BS
          have BS := BSN
          clear BSN
          obtain ⟨V11, hV11⟩ : ∃ V, V = W3 := ⟨_, rfl⟩
          subst hV11
          have HYT : Hd (-9223372036854775808 ≤ y.t ∧ y.t ≤ 9223372036854775807) := hid (by rw [HYD.out.2.2.1, hT.out]; have := HOY.out.t; rw [HT0.out] at this; split <;> omega)
          have HYN : Hd (Sl (fun b => b < w.heap.size) V11 (.slice sa y.d.length sc) (u8s y.d)) := hid (by rw [HYD.out.2.2.2.2]; exact HY.out)
          clear HY
          have HY := HYN
          clear HYN
          have HYB : Hd (∀ c ∈ y.d, c < 256) := hid (by rw [HYD.out.2.2.2.2]; exact HOY.out.d)
          have HY32 : Hd (y.s < 4294967296) := hid (by rw [HYD.out.2.2.2.1]; exact HOY.out.s)
          clear hT HYD HT0 HOY; try clear t1; try clear t2
          obtain ⟨E, hE⟩ : ∃ E, putE M y = E := ⟨_, rfl⟩
          obtain ⟨M2, hM2⟩ : ∃ M2, putM M y = M2 := ⟨_, rfl⟩
          have HE := hid hE; have HM2 := hid hM2; have HOK2 : Hd M2.ok := hid (by rw [← hM2]; exact putM_ok HOK.out HY32.out HYB.out)
          clear hE hM2
          go_upto_region 11 with fail
          have o_BS_0 : V11.cell? ⟨V.heap.size, 0, none⟩ = some ((.int .i64 y.f)) := blk_cell BS.out 0
          have o_BS_1 : V11.cell? ⟨V.heap.size, 1, none⟩ = some ((.int .i64 y.o)) := blk_cell BS.out 1
          have o_BS_2 : V11.cell? ⟨V.heap.size, 2, none⟩ = some ((.int .i64 y.t)) := blk_cell BS.out 2
          have o_BS_3 : V11.cell? ⟨V.heap.size, 3, none⟩ = some ((.int .u32 (y.s : Int))) := blk_cell BS.out 3
          have o_BS_4 : V11.cell? ⟨V.heap.size, 4, none⟩ = some ((.slice sa y.d.length sc)) := blk_cell BS.out 4
          go_wp2_with fail
          refine (Put_any _ _ M y sa sc _ HP.out HOK.out (HY.out.mono (fun b hb h => ⟨fun h2 => by have := HZW.out b h2.1; omega, hb⟩)) HYB.out HY32.out).mono ?_
          rintro e V2 ⟨rfl, hp2, hk⟩
          rw [HE.out]
          rw [HM2.out] at hp2
          have HPN := hid (hp2.mono (Z' := fun b => (((Z b ∧ b < V.heap.size) ∨ V11.heap.size ≤ b) ∧ b < V2.heap.size)) (fun b hb h => ⟨h, hb⟩))
          clear hp2 HP
          clear o_BS_0 o_BS_1 o_BS_2 o_BS_3 o_BS_4
          have HN' : Hd (NibF V2) := hid (HN.out.keep hk (fun b h1 h2 h3 => by have := HZW.out b h3.1; omega))
          have SL' : Hd (Sgs (fun b => b < w.heap.size) V2 (.slice (some ⟨bx, ox, none⟩) n lc) l) := hid (SL.out.keep hk (fun b h1 h2 h3 => by have := HZW.out b h3.1; omega))
          have HRR' : Hd (RPr (fun b => ¬ Z b ∧ w.heap.size ≤ b ∧ b ≠ W2x.heap.size ∧ b < V.heap.size) V2 M ah ch ad cd) := hid (HRR.out.keep hk (fun b h1 h2 h3 => h2.1 h3.1))
          have BQ' : Hd (Blk V2 W2x.heap.size #[(.int .i64 M.id), (.bool M.kn), (.int .i64 (M.dt.length : Int)), (.int .u32 (M.sm : Int)), (.slice ah M.hv.length ch), (.slice ad M.dt.length cd)] 61) := hid (blk_keep BQ.out hk (fun h => HZQ.out h.1))
          have HY' : Hd (Sl (fun b => b < w.heap.size) V2 (.slice sa y.d.length sc) (u8s y.d)) := hid (HY.out.keep hk (fun b h1 h2 h3 => by have := HZW.out b h3.1; omega))
          have BS' : Hd (Blk V2 V.heap.size #[(.int .i64 y.f), (.int .i64 y.o), (.int .i64 y.t), (.int .u32 (y.s : Int)), (.slice sa y.d.length sc)] 44) := hid (blk_keep BS.out hk (fun h => by omega))
          clear HN SL HRR BQ HY BS
          have HN := HN'
          clear HN'
          have SL := SL'
          clear SL'
          have HRR := HRR'
          clear HRR'
          have BQ := BQ'
          clear BQ'
          have HY := HY'
          clear HY'
          have BS := BS'
          clear BS'
          have HK' : Hd (Keeps (fun _ => False) w V2) := hid (HK.out.trans' hk (fun b hb h => by have := HZW.out b h.1; omega))
          clear HK
          have HK := HK'
          clear HK'
          have z_V2 := hk.size
          clear hk
          have HP := HPN
          clear HPN
          have o_BQ_0 : V2.cell? ⟨W2x.heap.size, 0, none⟩ = some ((.int .i64 M.id)) := blk_cell BQ.out 0
          have o_BQ_1 : V2.cell? ⟨W2x.heap.size, 1, none⟩ = some ((.bool M.kn)) := blk_cell BQ.out 1
          have o_BQ_2 : V2.cell? ⟨W2x.heap.size, 2, none⟩ = some ((.int .i64 (M.dt.length : Int))) := blk_cell BQ.out 2
          have o_BQ_3 : V2.cell? ⟨W2x.heap.size, 3, none⟩ = some ((.int .u32 (M.sm : Int))) := blk_cell BQ.out 3
          have o_BQ_4 : V2.cell? ⟨W2x.heap.size, 4, none⟩ = some ((.slice ah M.hv.length ch)) := blk_cell BQ.out 4
          have o_BQ_5 : V2.cell? ⟨W2x.heap.size, 5, none⟩ = some ((.slice ad M.dt.length cd)) := blk_cell BQ.out 5
          have o_BS_0 : V2.cell? ⟨V.heap.size, 0, none⟩ = some ((.int .i64 y.f)) := blk_cell BS.out 0
          have o_BS_1 : V2.cell? ⟨V.heap.size, 1, none⟩ = some ((.int .i64 y.o)) := blk_cell BS.out 1
          have o_BS_2 : V2.cell? ⟨V.heap.size, 2, none⟩ = some ((.int .i64 y.t)) := blk_cell BS.out 2
          have o_BS_3 : V2.cell? ⟨V.heap.size, 3, none⟩ = some ((.int .u32 (y.s : Int))) := blk_cell BS.out 3
          have o_BS_4 : V2.cell? ⟨V.heap.size, 4, none⟩ = some ((.slice sa y.d.length sc)) := blk_cell BS.out 4
          have hcall := RPut_any _ M ah ch ad cd y sa sc _ HOK.out HRR.out (HY.out.mono (K' := fun b => b < V2.heap.size) (fun b hb _ => hb)) HYB.out HY32.out HYT.out
          rw [HE.out, HM2.out] at hcall
          have HC := hid hcall
          clear hcall
          go_wp2_with fail
          refine (HC.out).mono ?_
          rintro e V3 ⟨ah2, ch2, ad2, cd2, rfl, hr2, hk⟩
          have HR2 := hid (hr2.mono (K' := fun b => ¬ (((Z b ∧ b < V.heap.size) ∨ V11.heap.size ≤ b) ∧ b < V2.heap.size) ∧ w.heap.size ≤ b ∧ b ≠ W2x.heap.size) (fun b _ h => by rcases h with h | h; exact ⟨fun h2 => by rcases h2.1 with h3 | h3; exact h.1 h3.1; omega, h.2.1, h.2.2.1⟩; exact ⟨fun h2 => by omega, by omega, by omega⟩))
          clear hr2 HC
          clear HRR
          clear o_BQ_0 o_BQ_1 o_BQ_2 o_BQ_3 o_BQ_4 o_BQ_5 o_BS_0 o_BS_1 o_BS_2 o_BS_3 o_BS_4
          have HN' : Hd (NibF V3) := hid (HN.out.keep hk (fun _ _ _ h => h))
          have SL' : Hd (Sgs (fun b => b < w.heap.size) V3 (.slice (some ⟨bx, ox, none⟩) n lc) l) := hid (SL.out.keep hk (fun _ _ _ h => h))
          have BQ' : Hd (Blk V3 W2x.heap.size #[(.int .i64 M.id), (.bool M.kn), (.int .i64 (M.dt.length : Int)), (.int .u32 (M.sm : Int)), (.slice ah M.hv.length ch), (.slice ad M.dt.length cd)] 61) := hid (blk_keep BQ.out hk (fun h => h))
          have HY' : Hd (Sl (fun b => b < w.heap.size) V3 (.slice sa y.d.length sc) (u8s y.d)) := hid (HY.out.keep hk (fun _ _ _ h => h))
          have BS' : Hd (Blk V3 V.heap.size #[(.int .i64 y.f), (.int .i64 y.o), (.int .i64 y.t), (.int .u32 (y.s : Int)), (.slice sa y.d.length sc)] 44) := hid (blk_keep BS.out hk (fun h => h))
          have HP' : Hd (PartR (fun b => (((Z b ∧ b < V.heap.size) ∨ V11.heap.size ≤ b) ∧ b < V2.heap.size)) V3 (w.heap.size) M2) := hid (HP.out.keep hk (fun _ _ _ h => h))
          clear HN SL BQ HY BS HP
          have HN := HN'
          clear HN'
          have SL := SL'
          clear SL'
          have BQ := BQ'
          clear BQ'
          have HY := HY'
          clear HY'
          have BS := BS'
          clear BS'
          have HP := HP'
          clear HP'
          have HK' : Hd (Keeps (fun _ => False) w V3) := hid (HK.out.trans hk)
          clear HK
          have HK := HK'
          clear HK'
          have z_V3 := hk.size
          clear hk
          go_upto_region 13 with fail
          generalize hW : World.alloc V3 _ = W4
          have KS : Hd (Keeps (fun _ => False) V3 W4) := hid (by rw [← hW]; exact (Keeps.alloc (Keeps.refl (fun _ => False) V3) _))
          have HN' : Hd (NibF W4) := hid (HN.out.keep KS.out (fun _ _ _ h => h))
          have SL' : Hd (Sgs (fun b => b < w.heap.size) W4 (.slice (some ⟨bx, ox, none⟩) n lc) l) := hid (SL.out.keep KS.out (fun _ _ _ h => h))
          have BQ' : Hd (Blk W4 W2x.heap.size #[(.int .i64 M.id), (.bool M.kn), (.int .i64 (M.dt.length : Int)), (.int .u32 (M.sm : Int)), (.slice ah M.hv.length ch), (.slice ad M.dt.length cd)] 61) := hid (by rw [← hW]; exact (blk_alloc BQ.out _))
          have HY' : Hd (Sl (fun b => b < w.heap.size) W4 (.slice sa y.d.length sc) (u8s y.d)) := hid (HY.out.keep KS.out (fun _ _ _ h => h))
          have BS' : Hd (Blk W4 V.heap.size #[(.int .i64 y.f), (.int .i64 y.o), (.int .i64 y.t), (.int .u32 (y.s : Int)), (.slice sa y.d.length sc)] 44) := hid (by rw [← hW]; exact (blk_alloc BS.out _))
          have HP' : Hd (PartR (fun b => (((Z b ∧ b < V.heap.size) ∨ V11.heap.size ≤ b) ∧ b < V2.heap.size)) W4 (w.heap.size) M2) := hid (HP.out.keep KS.out (fun _ _ _ h => h))
          have HR2' : Hd (RPr (fun b => ¬ (((Z b ∧ b < V.heap.size) ∨ V11.heap.size ≤ b) ∧ b < V2.heap.size) ∧ w.heap.size ≤ b ∧ b ≠ W2x.heap.size) W4 M2 ah2 ch2 ad2 cd2) := hid (HR2.out.keep KS.out (fun _ _ _ h => h))
          have BN : Hd (Blk W4 V3.heap.size #[(.int .i64 M2.id), (.bool M2.kn), (.int .i64 (M2.dt.length : Int)), (.int .u32 (M2.sm : Int)), (.slice ah2 M2.hv.length ch2), (.slice ad2 M2.dt.length cd2)] 61) := hid (by rw [← hW]; exact (blk_new _ _ _))
          clear HN SL BQ HY BS HP HR2
          have HN := HN'
          clear HN'
          have SL := SL'
          clear SL'
          have BQ := BQ'
          clear BQ'
          have HY := HY'
          clear HY'
          have BS := BS'
          clear BS'
          have HP := HP'
          clear HP'
          have HR2 := HR2'
          clear HR2'
          have HK' : Hd (Keeps (fun _ => False) w W4) := hid (HK.out.trans KS.out)
          clear HK
          have HK := HK'
          clear HK'
          have z_W4 : V3.heap.size + 1 ≤ W4.heap.size := by rw [← hW]; simp
          clear hW KS
          have o_BN_0 : W4.cell? ⟨V3.heap.size, 0, none⟩ = some ((.int .i64 M2.id)) := blk_cell BN.out 0
          have o_BN_1 : W4.cell? ⟨V3.heap.size, 1, none⟩ = some ((.bool M2.kn)) := blk_cell BN.out 1
          have o_BN_2 : W4.cell? ⟨V3.heap.size, 2, none⟩ = some ((.int .i64 (M2.dt.length : Int))) := blk_cell BN.out 2
          have o_BN_3 : W4.cell? ⟨V3.heap.size, 3, none⟩ = some ((.int .u32 (M2.sm : Int))) := blk_cell BN.out 3
          have o_BN_4 : W4.cell? ⟨V3.heap.size, 4, none⟩ = some ((.slice ah2 M2.hv.length ch2)) := blk_cell BN.out 4
          have o_BN_5 : W4.cell? ⟨V3.heap.size, 5, none⟩ = some ((.slice ad2 M2.dt.length cd2)) := blk_cell BN.out 5
          have o_BQ_0 : W4.cell? ⟨W2x.heap.size, 0, none⟩ = some ((.int .i64 M.id)) := blk_cell BQ.out 0
          have o_BQ_1 : W4.cell? ⟨W2x.heap.size, 1, none⟩ = some ((.bool M.kn)) := blk_cell BQ.out 1
          have o_BQ_2 : W4.cell? ⟨W2x.heap.size, 2, none⟩ = some ((.int .i64 (M.dt.length : Int))) := blk_cell BQ.out 2
          have o_BQ_3 : W4.cell? ⟨W2x.heap.size, 3, none⟩ = some ((.int .u32 (M.sm : Int))) := blk_cell BQ.out 3
          have o_BQ_4 : W4.cell? ⟨W2x.heap.size, 4, none⟩ = some ((.slice ah M.hv.length ch)) := blk_cell BQ.out 4
          have o_BQ_5 : W4.cell? ⟨W2x.heap.size, 5, none⟩ = some ((.slice ad M.dt.length cd)) := blk_cell BQ.out 5
          have f_BQ_0 : W4.frozen? ⟨W2x.heap.size, 0, none⟩ = false := blk_free BQ.out 0
          have f_BQ_1 : W4.frozen? ⟨W2x.heap.size, 1, none⟩ = false := blk_free BQ.out 1
          have f_BQ_2 : W4.frozen? ⟨W2x.heap.size, 2, none⟩ = false := blk_free BQ.out 2
          have f_BQ_3 : W4.frozen? ⟨W2x.heap.size, 3, none⟩ = false := blk_free BQ.out 3
          have f_BQ_4 : W4.frozen? ⟨W2x.heap.size, 4, none⟩ = false := blk_free BQ.out 4
          have f_BQ_5 : W4.frozen? ⟨W2x.heap.size, 5, none⟩ = false := blk_free BQ.out 5
          go_upto_region 14 with fail
          clear o_BN_0 o_BN_1 o_BN_2 o_BN_3 o_BN_4 o_BN_5 o_BQ_0 o_BQ_1 o_BQ_2 o_BQ_3 o_BQ_4 o_BQ_5 f_BQ_0 f_BQ_1 f_BQ_2 f_BQ_3 f_BQ_4 f_BQ_5
          generalize hW : World.setCell (World.setCell (World.setCell (World.setCell (World.setCell (World.setCell W4 _ _) _ _) _ _) _ _) _ _) _ _ = W5
          have KS : Hd (Keeps (fun b => b = W2x.heap.size) W4 W5) := hid (by rw [← hW]; exact (Keeps.setCell (S := fun b => b = W2x.heap.size) (Keeps.setCell (S := fun b => b = W2x.heap.size) (Keeps.setCell (S := fun b => b = W2x.heap.size) (Keeps.setCell (S := fun b => b = W2x.heap.size) (Keeps.setCell (S := fun b => b = W2x.heap.size) (Keeps.setCell (S := fun b => b = W2x.heap.size) (Keeps.refl (fun b => b = W2x.heap.size) W4) (.inl rfl) _) (.inl rfl) _) (.inl rfl) _) (.inl rfl) _) (.inl rfl) _) (.inl rfl) _))
          have HN' : Hd (NibF W5) := hid (HN.out.keep KS.out (fun b _ h1 h2 => by omega))
          have SL' : Hd (Sgs (fun b => b < w.heap.size) W5 (.slice (some ⟨bx, ox, none⟩) n lc) l) := hid (SL.out.keep KS.out (fun b _ h1 h2 => by omega))
          have BQ' : Hd (Blk W5 W2x.heap.size #[(.int .i64 M2.id), (.bool M2.kn), (.int .i64 (M2.dt.length : Int)), (.int .u32 (M2.sm : Int)), (.slice ah2 M2.hv.length ch2), (.slice ad2 M2.dt.length cd2)] 61) := hid (by rw [← hW]; exact (blk_set (blk_set (blk_set (blk_set (blk_set (blk_set BQ.out 0 _) 1 _) 2 _) 3 _) 4 _) 5 _))
          have HY' : Hd (Sl (fun b => b < w.heap.size) W5 (.slice sa y.d.length sc) (u8s y.d)) := hid (HY.out.keep KS.out (fun b _ h1 h2 => by omega))
          have BS' : Hd (Blk W5 V.heap.size #[(.int .i64 y.f), (.int .i64 y.o), (.int .i64 y.t), (.int .u32 (y.s : Int)), (.slice sa y.d.length sc)] 44) := hid (by rw [← hW]; exact (blk_other (blk_other (blk_other (blk_other (blk_other (blk_other BS.out (by omega) _ _) (by omega) _ _) (by omega) _ _) (by omega) _ _) (by omega) _ _) (by omega) _ _))
          have HP' : Hd (PartR (fun b => (((Z b ∧ b < V.heap.size) ∨ V11.heap.size ≤ b) ∧ b < V2.heap.size)) W5 (w.heap.size) M2) := hid (HP.out.keep KS.out (fun b _ h1 h2 => by subst h2; rcases h1.1 with h3 | h3; exact HZQ.out h3.1; omega))
          have HR2' : Hd (RPr (fun b => ¬ (((Z b ∧ b < V.heap.size) ∨ V11.heap.size ≤ b) ∧ b < V2.heap.size) ∧ w.heap.size ≤ b ∧ b ≠ W2x.heap.size) W5 M2 ah2 ch2 ad2 cd2) := hid (HR2.out.keep KS.out (fun b _ h1 h2 => by omega))
          have BN' : Hd (Blk W5 V3.heap.size #[(.int .i64 M2.id), (.bool M2.kn), (.int .i64 (M2.dt.length : Int)), (.int .u32 (M2.sm : Int)), (.slice ah2 M2.hv.length ch2), (.slice ad2 M2.dt.length cd2)] 61) := hid (by rw [← hW]; exact (blk_other (blk_other (blk_other (blk_other (blk_other (blk_other BN.out (by omega) _ _) (by omega) _ _) (by omega) _ _) (by omega) _ _) (by omega) _ _) (by omega) _ _))
          clear HN SL BQ HY BS HP HR2 BN
          have HN := HN'
          clear HN'
          have SL := SL'
          clear SL'
          have BQ := BQ'
          clear BQ'
          have HY := HY'
          clear HY'
          have BS := BS'
          clear BS'
          have HP := HP'
          clear HP'
          have HR2 := HR2'
          clear HR2'
          have BN := BN'
          clear BN'
          have HK' : Hd (Keeps (fun _ => False) w W5) := hid (HK.out.trans' KS.out (fun i hi h => by omega))
          clear HK
          have HK := HK'
          clear HK'
          have z_W5 : W4.heap.size + 0 ≤ W5.heap.size := by rw [← hW]; simp
          clear hW KS
          have o_BQ_0 : W5.cell? ⟨W2x.heap.size, 0, none⟩ = some ((.int .i64 M2.id)) := blk_cell BQ.out 0
          have o_BQ_1 : W5.cell? ⟨W2x.heap.size, 1, none⟩ = some ((.bool M2.kn)) := blk_cell BQ.out 1
          have o_BQ_2 : W5.cell? ⟨W2x.heap.size, 2, none⟩ = some ((.int .i64 (M2.dt.length : Int))) := blk_cell BQ.out 2
          have o_BQ_3 : W5.cell? ⟨W2x.heap.size, 3, none⟩ = some ((.int .u32 (M2.sm : Int))) := blk_cell BQ.out 3
          have o_BQ_4 : W5.cell? ⟨W2x.heap.size, 4, none⟩ = some ((.slice ah2 M2.hv.length ch2)) := blk_cell BQ.out 4
          have o_BQ_5 : W5.cell? ⟨W2x.heap.size, 5, none⟩ = some ((.slice ad2 M2.dt.length cd2)) := blk_cell BQ.out 5
          have ee : (E != E) = false := by simp
          go_wp2_with fail
          refine (same_any _ _ _ M2 ah2 ch2 ad2 cd2 _ HN.out HP.out HOK2.out HR2.out).mono ?_
          rintro e W6 ⟨rfl, hk⟩
          clear o_BQ_0 o_BQ_1 o_BQ_2 o_BQ_3 o_BQ_4 o_BQ_5
          have HN' : Hd (NibF W6) := hid (HN.out.keep hk (fun _ _ _ h => h))
          have SL' : Hd (Sgs (fun b => b < w.heap.size) W6 (.slice (some ⟨bx, ox, none⟩) n lc) l) := hid (SL.out.keep hk (fun _ _ _ h => h))
          have BQ' : Hd (Blk W6 W2x.heap.size #[(.int .i64 M2.id), (.bool M2.kn), (.int .i64 (M2.dt.length : Int)), (.int .u32 (M2.sm : Int)), (.slice ah2 M2.hv.length ch2), (.slice ad2 M2.dt.length cd2)] 61) := hid (blk_keep BQ.out hk (fun h => h))
          have HY' : Hd (Sl (fun b => b < w.heap.size) W6 (.slice sa y.d.length sc) (u8s y.d)) := hid (HY.out.keep hk (fun _ _ _ h => h))
          have BS' : Hd (Blk W6 V.heap.size #[(.int .i64 y.f), (.int .i64 y.o), (.int .i64 y.t), (.int .u32 (y.s : Int)), (.slice sa y.d.length sc)] 44) := hid (blk_keep BS.out hk (fun h => h))
          have HP' : Hd (PartR (fun b => (((Z b ∧ b < V.heap.size) ∨ V11.heap.size ≤ b) ∧ b < V2.heap.size)) W6 (w.heap.size) M2) := hid (HP.out.keep hk (fun _ _ _ h => h))
          have HR2' : Hd (RPr (fun b => ¬ (((Z b ∧ b < V.heap.size) ∨ V11.heap.size ≤ b) ∧ b < V2.heap.size) ∧ w.heap.size ≤ b ∧ b ≠ W2x.heap.size) W6 M2 ah2 ch2 ad2 cd2) := hid (HR2.out.keep hk (fun _ _ _ h => h))
          have BN' : Hd (Blk W6 V3.heap.size #[(.int .i64 M2.id), (.bool M2.kn), (.int .i64 (M2.dt.length : Int)), (.int .u32 (M2.sm : Int)), (.slice ah2 M2.hv.length ch2), (.slice ad2 M2.dt.length cd2)] 61) := hid (blk_keep BN.out hk (fun h => h))
          clear HN SL BQ HY BS HP HR2 BN
          have HN := HN'
          clear HN'
          have SL := SL'
          clear SL'
          have BQ := BQ'
          clear BQ'
          have HY := HY'
          clear HY'
          have BS := BS'
          clear BS'
          have HP := HP'
          clear HP'
          have HR2 := HR2'
          clear HR2'
          have BN := BN'
          clear BN'
          have HK' : Hd (Keeps (fun _ => False) w W6) := hid (HK.out.trans hk)
          clear HK
          have HK := HK'
          clear HK'
          have z_W6 := hk.size
          clear hk
          go_wp2_with fail
          go_roundw
          case rel => exact ⟨i + 1, M2, ah2, ch2, ad2, cd2, _, by go_num, by omega, by omega, HOK2, hid ⟨HP.out, HR2.out, BQ.out, fun h => by rcases h.1 with h2 | h2; exact HZQ.out h2.1; omega, fun b h => by rcases h.1 with h2 | h2; exact HZW.out b h2.1; omega, HK.out⟩⟩
          case measure => simp [intOf]; omega
      · have eT : t0 = T0 := by rw [hT.out, if_neg (fun h => by omega)]
        subst eT
        have o_BS_2 : W3.cell? ⟨V.heap.size, 2, none⟩ = some ((.int .i64 t0)) := blk_cell BS.out 2
        have f_BS_2 : W3.frozen? ⟨V.heap.size, 2, none⟩ = false := blk_free BS.out 2
        go_upto_region 11 with fail
        clear o_BS_2 f_BS_2
        have BSN : Hd (Blk W3 V.heap.size #[.int .i64 y.f, .int .i64 y.o, .int .i64 y.t, .int .u32 (y.s : Int), .slice sa y.d.length sc] 44) := hid (by obtain ⟨d0, d1, d2, d3, d4⟩ := HYD.out; rw [d0, d1, d2, d3, d4]; exact BS.out)
        clear BS
        have BS := BSN
        clear BSN
        obtain ⟨V11, hV11⟩ : ∃ V, V = W3 := ⟨_, rfl⟩
        subst hV11
        have HYT : Hd (-9223372036854775808 ≤ y.t ∧ y.t ≤ 9223372036854775807) := hid (by rw [HYD.out.2.2.1, hT.out]; have := HOY.out.t; rw [HT0.out] at this; split <;> omega)
        have HYN : Hd (Sl (fun b => b < w.heap.size) V11 (.slice sa y.d.length sc) (u8s y.d)) := hid (by rw [HYD.out.2.2.2.2]; exact HY.out)
        clear HY
        have HY := HYN
        clear HYN
        have HYB : Hd (∀ c ∈ y.d, c < 256) := hid (by rw [HYD.out.2.2.2.2]; exact HOY.out.d)
        have HY32 : Hd (y.s < 4294967296) := hid (by rw [HYD.out.2.2.2.1]; exact HOY.out.s)
        clear hT HYD HT0 HOY; try clear t1; try clear t2
        obtain ⟨E, hE⟩ : ∃ E, putE M y = E := ⟨_, rfl⟩
        obtain ⟨M2, hM2⟩ : ∃ M2, putM M y = M2 := ⟨_, rfl⟩
        have HE := hid hE; have HM2 := hid hM2; have HOK2 : Hd M2.ok := hid (by rw [← hM2]; exact putM_ok HOK.out HY32.out HYB.out)
        clear hE hM2
        go_upto_region 11 with fail
        have o_BS_0 : V11.cell? ⟨V.heap.size, 0, none⟩ = some ((.int .i64 y.f)) := blk_cell BS.out 0
        have o_BS_1 : V11.cell? ⟨V.heap.size, 1, none⟩ = some ((.int .i64 y.o)) := blk_cell BS.out 1
        have o_BS_2 : V11.cell? ⟨V.heap.size, 2, none⟩ = some ((.int .i64 y.t)) := blk_cell BS.out 2
        have o_BS_3 : V11.cell? ⟨V.heap.size, 3, none⟩ = some ((.int .u32 (y.s : Int))) := blk_cell BS.out 3
        have o_BS_4 : V11.cell? ⟨V.heap.size, 4, none⟩ = some ((.slice sa y.d.length sc)) := blk_cell BS.out 4
        go_wp2_with fail
        refine (Put_any _ _ M y sa sc _ HP.out HOK.out (HY.out.mono (fun b hb h => ⟨fun h2 => by have := HZW.out b h2.1; omega, hb⟩)) HYB.out HY32.out).mono ?_
        rintro e V2 ⟨rfl, hp2, hk⟩
        rw [HE.out]
        rw [HM2.out] at hp2
        have HPN := hid (hp2.mono (Z' := fun b => (((Z b ∧ b < V.heap.size) ∨ V11.heap.size ≤ b) ∧ b < V2.heap.size)) (fun b hb h => ⟨h, hb⟩))
        clear hp2 HP
        clear o_BS_0 o_BS_1 o_BS_2 o_BS_3 o_BS_4
        have HN' : Hd (NibF V2) := hid (HN.out.keep hk (fun b h1 h2 h3 => by have := HZW.out b h3.1; omega))
        have SL' : Hd (Sgs (fun b => b < w.heap.size) V2 (.slice (some ⟨bx, ox, none⟩) n lc) l) := hid (SL.out.keep hk (fun b h1 h2 h3 => by have := HZW.out b h3.1; omega))
        have HRR' : Hd (RPr (fun b => ¬ Z b ∧ w.heap.size ≤ b ∧ b ≠ W2x.heap.size ∧ b < V.heap.size) V2 M ah ch ad cd) := hid (HRR.out.keep hk (fun b h1 h2 h3 => h2.1 h3.1))
        have BQ' : Hd (Blk V2 W2x.heap.size #[(.int .i64 M.id), (.bool M.kn), (.int .i64 (M.dt.length : Int)), (.int .u32 (M.sm : Int)), (.slice ah M.hv.length ch), (.slice ad M.dt.length cd)] 61) := hid (blk_keep BQ.out hk (fun h => HZQ.out h.1))
        have HY' : Hd (Sl (fun b => b < w.heap.size) V2 (.slice sa y.d.length sc) (u8s y.d)) := hid (HY.out.keep hk (fun b h1 h2 h3 => by have := HZW.out b h3.1; omega))
        have BS' : Hd (Blk V2 V.heap.size #[(.int .i64 y.f), (.int .i64 y.o), (.int .i64 y.t), (.int .u32 (y.s : Int)), (.slice sa y.d.length sc)] 44) := hid (blk_keep BS.out hk (fun h => by omega))
        clear HN SL HRR BQ HY BS
        have HN := HN'
        clear HN'
        have SL := SL'
        clear SL'
        have HRR := HRR'
        clear HRR'
        have BQ := BQ'
        clear BQ'
        have HY := HY'
        clear HY'
        have BS := BS'
        clear BS'
        have HK' : Hd (Keeps (fun _ => False) w V2) := hid (HK.out.trans' hk (fun b hb h => by have := HZW.out b h.1; omega))
        clear HK
        have HK := HK'
        clear HK'
        have z_V2 := hk.size
        clear hk
        have HP := HPN
        clear HPN
        have o_BQ_0 : V2.cell? ⟨W2x.heap.size, 0, none⟩ = some ((.int .i64 M.id)) := blk_cell BQ.out 0
        have o_BQ_1 : V2.cell? ⟨W2x.heap.size, 1, none⟩ = some ((.bool M.kn)) := blk_cell BQ.out 1
        have o_BQ_2 : V2.cell? ⟨W2x.heap.size, 2, none⟩ = some ((.int .i64 (M.dt.length : Int))) := blk_cell BQ.out 2
        have o_BQ_3 : V2.cell? ⟨W2x.heap.size, 3, none⟩ = some ((.int .u32 (M.sm : Int))) := blk_cell BQ.out 3
        have o_BQ_4 : V2.cell? ⟨W2x.heap.size, 4, none⟩ = some ((.slice ah M.hv.length ch)) := blk_cell BQ.out 4
        have o_BQ_5 : V2.cell? ⟨W2x.heap.size, 5, none⟩ = some ((.slice ad M.dt.length cd)) := blk_cell BQ.out 5
        have o_BS_0 : V2.cell? ⟨V.heap.size, 0, none⟩ = some ((.int .i64 y.f)) := blk_cell BS.out 0
        have o_BS_1 : V2.cell? ⟨V.heap.size, 1, none⟩ = some ((.int .i64 y.o)) := blk_cell BS.out 1
        have o_BS_2 : V2.cell? ⟨V.heap.size, 2, none⟩ = some ((.int .i64 y.t)) := blk_cell BS.out 2
        have o_BS_3 : V2.cell? ⟨V.heap.size, 3, none⟩ = some ((.int .u32 (y.s : Int))) := blk_cell BS.out 3
        have o_BS_4 : V2.cell? ⟨V.heap.size, 4, none⟩ = some ((.slice sa y.d.length sc)) := blk_cell BS.out 4
        have hcall := RPut_any _ M ah ch ad cd y sa sc _ HOK.out HRR.out (HY.out.mono (K' := fun b => b < V2.heap.size) (fun b hb _ => hb)) HYB.out HY32.out HYT.out
        rw [HE.out, HM2.out] at hcall
        have HC := hid hcall
        clear hcall
        go_wp2_with fail
        refine (HC.out).mono ?_
        rintro e V3 ⟨ah2, ch2, ad2, cd2, rfl, hr2, hk⟩
        have HR2 := hid (hr2.mono (K' := fun b => ¬ (((Z b ∧ b < V.heap.size) ∨ V11.heap.size ≤ b) ∧ b < V2.heap.size) ∧ w.heap.size ≤ b ∧ b ≠ W2x.heap.size) (fun b _ h => by rcases h with h | h; exact ⟨fun h2 => by rcases h2.1 with h3 | h3; exact h.1 h3.1; omega, h.2.1, h.2.2.1⟩; exact ⟨fun h2 => by omega, by omega, by omega⟩))
        clear hr2 HC
        clear HRR
        clear o_BQ_0 o_BQ_1 o_BQ_2 o_BQ_3 o_BQ_4 o_BQ_5 o_BS_0 o_BS_1 o_BS_2 o_BS_3 o_BS_4
        have HN' : Hd (NibF V3) := hid (HN.out.keep hk (fun _ _ _ h => h))
        have SL' : Hd (Sgs (fun b => b < w.heap.size) V3 (.slice (some ⟨bx, ox, none⟩) n lc) l) := hid (SL.out.keep hk (fun _ _ _ h => h))
        have BQ' : Hd (Blk V3 W2x.heap.size #[(.int .i64 M.id), (.bool M.kn), (.int .i64 (M.dt.length : Int)), (.int .u32 (M.sm : Int)), (.slice ah M.hv.length ch), (.slice ad M.dt.length cd)] 61) := hid (blk_keep BQ.out hk (fun h => h))
        have HY' : Hd (Sl (fun b => b < w.heap.size) V3 (.slice sa y.d.length sc) (u8s y.d)) := hid (HY.out.keep hk (fun _ _ _ h => h))
        have BS' : Hd (Blk V3 V.heap.size #[(.int .i64 y.f), (.int .i64 y.o), (.int .i64 y.t), (.int .u32 (y.s : Int)), (.slice sa y.d.length sc)] 44) := hid (blk_keep BS.out hk (fun h => h))
        have HP' : Hd (PartR (fun b => (((Z b ∧ b < V.heap.size) ∨ V11.heap.size ≤ b) ∧ b < V2.heap.size)) V3 (w.heap.size) M2) := hid (HP.out.keep hk (fun _ _ _ h => h))
        clear HN SL BQ HY BS HP
        have HN := HN'
        clear HN'
        have SL := SL'
        clear SL'
        have BQ := BQ'
        clear BQ'
        have HY := HY'
        clear HY'
        have BS := BS'
        clear BS'
        have HP := HP'
        clear HP'
        have HK' : Hd (Keeps (fun _ => False) w V3) := hid (HK.out.trans hk)
        clear HK
        have HK := HK'
        clear HK'
        have z_V3 := hk.size
        clear hk
        go_upto_region 13 with fail
        generalize hW : World.alloc V3 _ = W4
        have KS : Hd (Keeps (fun _ => False) V3 W4) := hid (by rw [← hW]; exact (Keeps.alloc (Keeps.refl (fun _ => False) V3) _))
        have HN' : Hd (NibF W4) := hid (HN.out.keep KS.out (fun _ _ _ h => h))
        have SL' : Hd (Sgs (fun b => b < w.heap.size) W4 (.slice (some ⟨bx, ox, none⟩) n lc) l) := hid (SL.out.keep KS.out (fun _ _ _ h => h))
        have BQ' : Hd (Blk W4 W2x.heap.size #[(.int .i64 M.id), (.bool M.kn), (.int .i64 (M.dt.length : Int)), (.int .u32 (M.sm : Int)), (.slice ah M.hv.length ch), (.slice ad M.dt.length cd)] 61) := hid (by rw [← hW]; exact (blk_alloc BQ.out _))
        have HY' : Hd (Sl (fun b => b < w.heap.size) W4 (.slice sa y.d.length sc) (u8s y.d)) := hid (HY.out.keep KS.out (fun _ _ _ h => h))
        have BS' : Hd (Blk W4 V.heap.size #[(.int .i64 y.f), (.int .i64 y.o), (.int .i64 y.t), (.int .u32 (y.s : Int)), (.slice sa y.d.length sc)] 44) := hid (by rw [← hW]; exact (blk_alloc BS.out _))
        have HP' : Hd (PartR (fun b => (((Z b ∧ b < V.heap.size) ∨ V11.heap.size ≤ b) ∧ b < V2.heap.size)) W4 (w.heap.size) M2) := hid (HP.out.keep KS.out (fun _ _ _ h => h))
        have HR2' : Hd (RPr (fun b => ¬ (((Z b ∧ b < V.heap.size) ∨ V11.heap.size ≤ b) ∧ b < V2.heap.size) ∧ w.heap.size ≤ b ∧ b ≠ W2x.heap.size) W4 M2 ah2 ch2 ad2 cd2) := hid (HR2.out.keep KS.out (fun _ _ _ h => h))
        have BN : Hd (Blk W4 V3.heap.size #[(.int .i64 M2.id), (.bool M2.kn), (.int .i64 (M2.dt.length : Int)), (.int .u32 (M2.sm : Int)), (.slice ah2 M2.hv.length ch2), (.slice ad2 M2.dt.length cd2)] 61) := hid (by rw [← hW]; exact (blk_new _ _ _))
        clear HN SL BQ HY BS HP HR2
        have HN := HN'
        clear HN'
        have SL := SL'
        clear SL'
        have BQ := BQ'
        clear BQ'
        have HY := HY'
        clear HY'
        have BS := BS'
        clear BS'
        have HP := HP'
        clear HP'
        have HR2 := HR2'
        clear HR2'
        have HK' : Hd (Keeps (fun _ => False) w W4) := hid (HK.out.trans KS.out)
        clear HK
        have HK := HK'
        clear HK'
        have z_W4 : V3.heap.size + 1 ≤ W4.heap.size := by rw [← hW]; simp
        clear hW KS
        have o_BN_0 : W4.cell? ⟨V3.heap.size, 0, none⟩ = some ((.int .i64 M2.id)) := blk_cell BN.out 0
        have o_BN_1 : W4.cell? ⟨V3.heap.size, 1, none⟩ = some ((.bool M2.kn)) := blk_cell BN.out 1
        have o_BN_2 : W4.cell? ⟨V3.heap.size, 2, none⟩ = some ((.int .i64 (M2.dt.length : Int))) := blk_cell BN.out 2
        have o_BN_3 : W4.cell? ⟨V3.heap.size, 3, none⟩ = some ((.int .u32 (M2.sm : Int))) := blk_cell BN.out 3
        have o_BN_4 : W4.cell? ⟨V3.heap.size, 4, none⟩ = some ((.slice ah2 M2.hv.length ch2)) := blk_cell BN.out 4
        have o_BN_5 : W4.cell? ⟨V3.heap.size, 5, none⟩ = some ((.slice ad2 M2.dt.length cd2)) := blk_cell BN.out 5
        have o_BQ_0 : W4.cell? ⟨W2x.heap.size, 0, none⟩ = some ((.int .i64 M.id)) := blk_cell BQ.out 0
        have o_BQ_1 : W4.cell? ⟨W2x.heap.size, 1, none⟩ = some ((.bool M.kn)) := blk_cell BQ.out 1
        have o_BQ_2 : W4.cell? ⟨W2x.heap.size, 2, none⟩ = some ((.int .i64 (M.dt.length : Int))) := blk_cell BQ.out 2
        have o_BQ_3 : W4.cell? ⟨W2x.heap.size, 3, none⟩ = some ((.int .u32 (M.sm : Int))) := blk_cell BQ.out 3
        have o_BQ_4 : W4.cell? ⟨W2x.heap.size, 4, none⟩ = some ((.slice ah M.hv.length ch)) := blk_cell BQ.out 4
        have o_BQ_5 : W4.cell? ⟨W2x.heap.size, 5, none⟩ = some ((.slice ad M.dt.length cd)) := blk_cell BQ.out 5
        have f_BQ_0 : W4.frozen? ⟨W2x.heap.size, 0, none⟩ = false := blk_free BQ.out 0
        have f_BQ_1 : W4.frozen? ⟨W2x.heap.size, 1, none⟩ = false := blk_free BQ.out 1
        have f_BQ_2 : W4.frozen? ⟨W2x.heap.size, 2, none⟩ = false := blk_free BQ.out 2
        have f_BQ_3 : W4.frozen? ⟨W2x.heap.size, 3, none⟩ = false := blk_free BQ.out 3
        have f_BQ_4 : W4.frozen? ⟨W2x.heap.size, 4, none⟩ = false := blk_free BQ.out 4
        have f_BQ_5 : W4.frozen? ⟨W2x.heap.size, 5, none⟩ = false := blk_free BQ.out 5
        go_upto_region 14 with fail
        clear o_BN_0 o_BN_1 o_BN_2 o_BN_3 o_BN_4 o_BN_5 o_BQ_0 o_BQ_1 o_BQ_2 o_BQ_3 o_BQ_4 o_BQ_5 f_BQ_0 f_BQ_1 f_BQ_2 f_BQ_3 f_BQ_4 f_BQ_5
        generalize hW : World.setCell (World.setCell (World.setCell (World.setCell (World.setCell (World.setCell W4 _ _) _ _) _ _) _ _) _ _) _ _ = W5
        have KS : Hd (Keeps (fun b => b = W2x.heap.size) W4 W5) := hid (by rw [← hW]; exact (Keeps.setCell (S := fun b => b = W2x.heap.size) (Keeps.setCell (S := fun b => b = W2x.heap.size) (Keeps.setCell (S := fun b => b = W2x.heap.size) (Keeps.setCell (S := fun b => b = W2x.heap.size) (Keeps.setCell (S := fun b => b = W2x.heap.size) (Keeps.setCell (S := fun b => b = W2x.heap.size) (Keeps.refl (fun b => b = W2x.heap.size) W4) (.inl rfl) _) (.inl rfl) _) (.inl rfl) _) (.inl rfl) _) (.inl rfl) _) (.inl rfl) _))
        have HN' : Hd (NibF W5) := hid (HN.out.keep KS.out (fun b _ h1 h2 => by omega))
        have SL' : Hd (Sgs (fun b => b < w.heap.size) W5 (.slice (some ⟨bx, ox, none⟩) n lc) l) := hid (SL.out.keep KS.out (fun b _ h1 h2 => by omega))
        have BQ' : Hd (Blk W5 W2x.heap.size #[(.int .i64 M2.id), (.bool M2.kn), (.int .i64 (M2.dt.length : Int)), (.int .u32 (M2.sm : Int)), (.slice ah2 M2.hv.length ch2), (.slice ad2 M2.dt.length cd2)] 61) := hid (by rw [← hW]; exact (blk_set (blk_set (blk_set (blk_set (blk_set (blk_set BQ.out 0 _) 1 _) 2 _) 3 _) 4 _) 5 _))
        have HY' : Hd (Sl (fun b => b < w.heap.size) W5 (.slice sa y.d.length sc) (u8s y.d)) := hid (HY.out.keep KS.out (fun b _ h1 h2 => by omega))
        have BS' : Hd (Blk W5 V.heap.size #[(.int .i64 y.f), (.int .i64 y.o), (.int .i64 y.t), (.int .u32 (y.s : Int)), (.slice sa y.d.length sc)] 44) := hid (by rw [← hW]; exact (blk_other (blk_other (blk_other (blk_other (blk_other (blk_other BS.out (by omega) _ _) (by omega) _ _) (by omega) _ _) (by omega) _ _) (by omega) _ _) (by omega) _ _))
        have HP' : Hd (PartR (fun b => (((Z b ∧ b < V.heap.size) ∨ V11.heap.size ≤ b) ∧ b < V2.heap.size)) W5 (w.heap.size) M2) := hid (HP.out.keep KS.out (fun b _ h1 h2 => by subst h2; rcases h1.1 with h3 | h3; exact HZQ.out h3.1; omega))
        have HR2' : Hd (RPr (fun b => ¬ (((Z b ∧ b < V.heap.size) ∨ V11.heap.size ≤ b) ∧ b < V2.heap.size) ∧ w.heap.size ≤ b ∧ b ≠ W2x.heap.size) W5 M2 ah2 ch2 ad2 cd2) := hid (HR2.out.keep KS.out (fun b _ h1 h2 => by omega))
        have BN' : Hd (Blk W5 V3.heap.size #[(.int .i64 M2.id), (.bool M2.kn), (.int .i64 (M2.dt.length : Int)), (.int .u32 (M2.sm : Int)), (.slice ah2 M2.hv.length ch2), (.slice ad2 M2.dt.length cd2)] 61) := hid (by rw [← hW]; exact (blk_other (blk_other (blk_other (blk_other (blk_other (blk_other BN.out (by omega) _ _) (by omega) _ _) (by omega) _ _) (by omega) _ _) (by omega) _ _) (by omega) _ _))
        clear HN SL BQ HY BS HP HR2 BN
        have HN := HN'
        clear HN'
        have SL := SL'
        clear SL'
        have BQ := BQ'
        clear BQ'
        have HY := HY'
        clear HY'
        have BS := BS'
        clear BS'
        have HP := HP'
        clear HP'
        have HR2 := HR2'
        clear HR2'
        have BN := BN'
        clear BN'
        have HK' : Hd (Keeps (fun _ => False) w W5) := hid (HK.out.trans' KS.out (fun i hi h => by omega))
        clear HK
        have HK := HK'
        clear HK'
        have z_W5 : W4.heap.size + 0 ≤ W5.heap.size := by rw [← hW]; simp
        clear hW KS
        have o_BQ_0 : W5.cell? ⟨W2x.heap.size, 0, none⟩ = some ((.int .i64 M2.id)) := blk_cell BQ.out 0
        have o_BQ_1 : W5.cell? ⟨W2x.heap.size, 1, none⟩ = some ((.bool M2.kn)) := blk_cell BQ.out 1
        have o_BQ_2 : W5.cell? ⟨W2x.heap.size, 2, none⟩ = some ((.int .i64 (M2.dt.length : Int))) := blk_cell BQ.out 2
        have o_BQ_3 : W5.cell? ⟨W2x.heap.size, 3, none⟩ = some ((.int .u32 (M2.sm : Int))) := blk_cell BQ.out 3
        have o_BQ_4 : W5.cell? ⟨W2x.heap.size, 4, none⟩ = some ((.slice ah2 M2.hv.length ch2)) := blk_cell BQ.out 4
        have o_BQ_5 : W5.cell? ⟨W2x.heap.size, 5, none⟩ = some ((.slice ad2 M2.dt.length cd2)) := blk_cell BQ.out 5
        have ee : (E != E) = false := by simp
        go_wp2_with fail
        refine (same_any _ _ _ M2 ah2 ch2 ad2 cd2 _ HN.out HP.out HOK2.out HR2.out).mono ?_
        rintro e W6 ⟨rfl, hk⟩
        clear o_BQ_0 o_BQ_1 o_BQ_2 o_BQ_3 o_BQ_4 o_BQ_5
        have HN' : Hd (NibF W6) := hid (HN.out.keep hk (fun _ _ _ h => h))
        have SL' : Hd (Sgs (fun b => b < w.heap.size) W6 (.slice (some ⟨bx, ox, none⟩) n lc) l) := hid (SL.out.keep hk (fun _ _ _ h => h))
        have BQ' : Hd (Blk W6 W2x.heap.size #[(.int .i64 M2.id), (.bool M2.kn), (.int .i64 (M2.dt.length : Int)), (.int .u32 (M2.sm : Int)), (.slice ah2 M2.hv.length ch2), (.slice ad2 M2.dt.length cd2)] 61) := hid (blk_keep BQ.out hk (fun h => h))
        have HY' : Hd (Sl (fun b => b < w.heap.size) W6 (.slice sa y.d.length sc) (u8s y.d)) := hid (HY.out.keep hk (fun _ _ _ h => h))
        have BS' : Hd (Blk W6 V.heap.size #[(.int .i64 y.f), (.int .i64 y.o), (.int .i64 y.t), (.int .u32 (y.s : Int)), (.slice sa y.d.length sc)] 44) := hid (blk_keep BS.out hk (fun h => h))
        have HP' : Hd (PartR (fun b => (((Z b ∧ b < V.heap.size) ∨ V11.heap.size ≤ b) ∧ b < V2.heap.size)) W6 (w.heap.size) M2) := hid (HP.out.keep hk (fun _ _ _ h => h))
        have HR2' : Hd (RPr (fun b => ¬ (((Z b ∧ b < V.heap.size) ∨ V11.heap.size ≤ b) ∧ b < V2.heap.size) ∧ w.heap.size ≤ b ∧ b ≠ W2x.heap.size) W6 M2 ah2 ch2 ad2 cd2) := hid (HR2.out.keep hk (fun _ _ _ h => h))
        have BN' : Hd (Blk W6 V3.heap.size #[(.int .i64 M2.id), (.bool M2.kn), (.int .i64 (M2.dt.length : Int)), (.int .u32 (M2.sm : Int)), (.slice ah2 M2.hv.length ch2), (.slice ad2 M2.dt.length cd2)] 61) := hid (blk_keep BN.out hk (fun h => h))
        clear HN SL BQ HY BS HP HR2 BN
        have HN := HN'
        clear HN'
        have SL := SL'
        clear SL'
        have BQ := BQ'
        clear BQ'
        have HY := HY'
        clear HY'
        have BS := BS'
        clear BS'
        have HP := HP'
        clear HP'
        have HR2 := HR2'
        clear HR2'
        have BN := BN'
        clear BN'
        have HK' : Hd (Keeps (fun _ => False) w W6) := hid (HK.out.trans hk)
        clear HK
        have HK := HK'
        clear HK'
        have z_W6 := hk.size
        clear hk
        go_wp2_with fail
        go_roundw
        case rel => exact ⟨i + 1, M2, ah2, ch2, ad2, cd2, _, by go_num, by omega, by omega, HOK2, hid ⟨HP.out, HR2.out, BQ.out, fun h => by rcases h.1 with h2 | h2; exact HZQ.out h2.1; omega, fun b h => by rcases h.1 with h2 | h2; exact HZW.out b h2.1; omega, HK.out⟩⟩
        case measure => simp [intOf]; omega
    · have hgo2 : n ≤ i ∨ (i < n ∧ 30 ≤ i) := by omega
      clear hgo
      rcases hgo2 with hgo2 | ⟨hgo2, hgo3⟩
      · have hi1 : ¬ ((i : Int) < n) := by omega
        go_wp2_with fail
        refine (lives_any _ HN.out).mono ?_
        rintro e W3 ⟨rfl, hk⟩
        have HN' : Hd (NibF W3) := hid (HN.out.keep hk (fun _ _ _ h => h))
        have SL' : Hd (Sgs (fun b => b < w.heap.size) W3 (.slice la n lc) l) := hid (SL.out.keep hk (fun _ _ _ h => h))
        have HP' : Hd (PartR (fun b => Z b ∧ b < V.heap.size) W3 (w.heap.size) M) := hid (HP.out.keep hk (fun _ _ _ h => h))
        have HRR' : Hd (RPr (fun b => ¬ Z b ∧ w.heap.size ≤ b ∧ b ≠ W2x.heap.size ∧ b < V.heap.size) W3 M ah ch ad cd) := hid (HRR.out.keep hk (fun _ _ _ h => h))
        have BQ' : Hd (Blk W3 W2x.heap.size #[(.int .i64 M.id), (.bool M.kn), (.int .i64 (M.dt.length : Int)), (.int .u32 (M.sm : Int)), (.slice ah M.hv.length ch), (.slice ad M.dt.length cd)] 61) := hid (blk_keep BQ.out hk (fun h => h))
        clear HN SL HP HRR BQ
        have HN := HN'
        clear HN'
        have SL := SL'
        clear SL'
        have HP := HP'
        clear HP'
        have HRR := HRR'
        clear HRR'
        have BQ := BQ'
        clear BQ'
        have HK' : Hd (Keeps (fun _ => False) w W3) := hid (HK.out.trans hk)
        clear HK
        have HK := HK'
        clear HK'
        have z_W3 := hk.size
        clear hk
        go_wp2
        go_ret
        exact ⟨rfl, HK.out⟩
      · have hi1 : (i : Int) < n := by omega
        have hi2 : ¬ ((i : Int) < 30) := by omega
        go_wp2_with fail
        refine (lives_any _ HN.out).mono ?_
        rintro e W3 ⟨rfl, hk⟩
        have HN' : Hd (NibF W3) := hid (HN.out.keep hk (fun _ _ _ h => h))
        have SL' : Hd (Sgs (fun b => b < w.heap.size) W3 (.slice la n lc) l) := hid (SL.out.keep hk (fun _ _ _ h => h))
        have HP' : Hd (PartR (fun b => Z b ∧ b < V.heap.size) W3 (w.heap.size) M) := hid (HP.out.keep hk (fun _ _ _ h => h))
        have HRR' : Hd (RPr (fun b => ¬ Z b ∧ w.heap.size ≤ b ∧ b ≠ W2x.heap.size ∧ b < V.heap.size) W3 M ah ch ad cd) := hid (HRR.out.keep hk (fun _ _ _ h => h))
        have BQ' : Hd (Blk W3 W2x.heap.size #[(.int .i64 M.id), (.bool M.kn), (.int .i64 (M.dt.length : Int)), (.int .u32 (M.sm : Int)), (.slice ah M.hv.length ch), (.slice ad M.dt.length cd)] 61) := hid (blk_keep BQ.out hk (fun h => h))
        clear HN SL HP HRR BQ
        have HN := HN'
        clear HN'
        have SL := SL'
        clear SL'
        have HP := HP'
        clear HP'
        have HRR := HRR'
        clear HRR'
        have BQ := BQ'
        clear BQ'
        have HK' : Hd (Keeps (fun _ => False) w W3) := hid (HK.out.trans hk)
        clear HK
        have HK := HK'
        clear HK'
        have z_W3 := hk.size
        clear hk
        go_wp2
        go_ret
        exact ⟨rfl, HK.out⟩
end Go.Proofs.YtgeicbjlichdgaaDoor
