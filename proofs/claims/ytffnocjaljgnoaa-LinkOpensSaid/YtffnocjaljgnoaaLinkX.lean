/- Link: LinkSends, LinkOpens, LinkSpoils walked. -/
import Derived.Test.YtffnocjaljgnoaaLinkW
import Derived.Test.YtffnocjaljgnoaaLinkL
namespace Go.Proofs.Ytffnocjaljgnoaa
open Go.RowKit
attribute [local go_sem ↓] Go.wp_at_zero Go.wp_at_succ
set_option maxRecDepth 100000 in set_option maxHeartbeats 1000000 in
theorem sends_any (v0 v1 v2 v3 : Value) (l0 : List Int) (m1 : Nat) (l2 : List Nat) (m3 : Nat) (w : World) (h0 : Sl (fun b => b < w.heap.size) w v0 (i64s l0)) (hl0 : ∀ n ∈ l0, -9223372036854775808 ≤ n ∧ n ≤ 9223372036854775807) (h1 : ArrS 4 (fun b => b < w.heap.size) w v1 m1) (h2 : Sl (fun b => b < w.heap.size) w v2 (u8s l2)) (hl2 : ∀ c ∈ l2, c < 256) (h3 : ArrS 2 (fun b => b < w.heap.size) w v3 m3) :
    Calls Try.prog 3 #[v0, v1, v2, v3] w fun e w' => e = .returned (.bool true) ∧ Keeps (fun _ => False) w w' := by
  have H0 := hid h0; have H1 := hid h1; have H2 := hid h2; have H3 := hid h3; have HL0 := hid hl0; have HL2 := hid hl2
  clear h0 h1 h2 h3 hl0 hl2
  go_enter Try.func3, Try.ntmps3
  go_wp2_with fail
  refine (Table_any _ l0 _ H0.out HL0.out).mono ?_
  rintro e W1 ⟨at', nt, ct, ws, rfl, rfl, hw8, hws, hsw, hk⟩
  have HWS := hid hws; have HSW := hid hsw; clear hws hsw
  have HK : Hd (Keeps (fun _ => False) w W1) := hid hk
  have z_W1 := hk.size
  clear hk
  go_wp2_with fail
  refine (Fates_any _ _ m1 l2 _ ((H1.out.keep HK.out (fun _ _ _ h => h)).mono (fun b h _ => h)) ((H2.out.keep HK.out (fun _ _ _ h => h)).mono (fun b h _ => h)) HL2.out).mono ?_
  rintro e W2 ⟨af, nf, cf, fts, rfl, rfl, hf6, hfs, hok, hk⟩
  have HFS := hid hfs; have HOK := hid hok; clear hfs hok
  have HWS' : Hd (Wins (fun b => w.heap.size ≤ b) W2 (.slice at' ws.length ct) ws) := hid (HWS.out.keep hk (fun _ _ _ h => h))
  clear HWS
  have HWS := HWS'
  clear HWS'
  have HK' : Hd (Keeps (fun _ => False) w W2) := hid (HK.out.trans hk)
  clear HK
  have HK := HK'
  clear HK'
  have z_W2 := hk.size
  clear hk
  go_wp2_with fail
  refine (sent_any _ _ _ ws fts m3 _ (HWS.out.mono (fun b h _ => h)) HSW.out (HFS.out.mono (fun b h _ => h)) hf6 HOK.out ((H3.out.keep HK.out (fun _ _ _ h => h)).mono (fun b h _ => h))).mono ?_
  rintro e W3 ⟨l, cn, tick, a1, c1, a2, c2, rfl, hG, htk, hcn, hF1, hF2, hk⟩
  have HG := hid hG; have F1 := hid hF1; have F2 := hid hF2; clear hG hF1 hF2
  have HWS' : Hd (Wins (fun b => w.heap.size ≤ b) W3 (.slice at' ws.length ct) ws) := hid (HWS.out.keep hk (fun _ _ _ h => h))
  have HFS' : Hd (Fts (fun b => W1.heap.size ≤ b) W3 (.slice af fts.length cf) fts) := hid (HFS.out.keep hk (fun _ _ _ h => h))
  clear HWS HFS
  have HWS := HWS'
  clear HWS'
  have HFS := HFS'
  clear HFS'
  have HK' : Hd (Keeps (fun _ => False) w W3) := hid (HK.out.trans hk)
  clear HK
  have HK := HK'
  clear HK'
  have z_W3 := hk.size
  clear hk
  go_upto_region 2 with fail
  generalize hW : World.alloc (World.alloc W3 _) _ = W4
  have KS : Hd (Keeps (fun _ => False) W3 W4) := hid (by rw [← hW]; exact (Keeps.alloc (Keeps.alloc (Keeps.refl (fun _ => False) W3) _) _))
  have HWS' : Hd (Wins (fun b => w.heap.size ≤ b) W4 (.slice at' ws.length ct) ws) := hid (HWS.out.keep KS.out (fun _ _ _ h => h))
  have HFS' : Hd (Fts (fun b => W1.heap.size ≤ b) W4 (.slice af fts.length cf) fts) := hid (HFS.out.keep KS.out (fun _ _ _ h => h))
  have F1' : Hd (Fls (fun b => W2.heap.size ≤ b) W4 (.slice a1 l.length c1) l) := hid (F1.out.keep KS.out (fun _ _ _ h => h))
  have F2' : Hd (Fls (fun b => W2.heap.size ≤ b) W4 (.slice a2 l.length c2) l) := hid (F2.out.keep KS.out (fun _ _ _ h => h))
  have BK : Hd (Blk W4 W3.heap.size #[.slice a1 l.length c1, .int .i64 cn] 28) := hid (by rw [← hW]; exact (blk_alloc (blk_new _ _ _) _))
  have BP : Hd (Blk W4 (W3.heap.size + 1) #[.slice a2 l.length c2, .int .i64 cn, .int .i64 tick] 30) := hid (by rw [← hW]; exact (blk_new' _ _ _ _ (by simp)))
  clear HWS HFS F1 F2
  have HWS := HWS'
  clear HWS'
  have HFS := HFS'
  clear HFS'
  have F1 := F1'
  clear F1'
  have F2 := F2'
  clear F2'
  have HK' : Hd (Keeps (fun _ => False) w W4) := hid (HK.out.trans KS.out)
  clear HK
  have HK := HK'
  clear HK'
  have z_W4 : W3.heap.size + 2 ≤ W4.heap.size := by rw [← hW]; simp
  clear hW KS
  go_wp2_with fail
  refine (lives_any _).mono ?_
  rintro e W5 ⟨rfl, hk⟩
  have HWS' : Hd (Wins (fun b => w.heap.size ≤ b) W5 (.slice at' ws.length ct) ws) := hid (HWS.out.keep hk (fun _ _ _ h => h))
  have HFS' : Hd (Fts (fun b => W1.heap.size ≤ b) W5 (.slice af fts.length cf) fts) := hid (HFS.out.keep hk (fun _ _ _ h => h))
  have F1' : Hd (Fls (fun b => W2.heap.size ≤ b) W5 (.slice a1 l.length c1) l) := hid (F1.out.keep hk (fun _ _ _ h => h))
  have F2' : Hd (Fls (fun b => W2.heap.size ≤ b) W5 (.slice a2 l.length c2) l) := hid (F2.out.keep hk (fun _ _ _ h => h))
  have BK' : Hd (Blk W5 W3.heap.size #[.slice a1 l.length c1, .int .i64 cn] 28) := hid (blk_keep BK.out hk (fun h => h))
  have BP' : Hd (Blk W5 (W3.heap.size + 1) #[.slice a2 l.length c2, .int .i64 cn, .int .i64 tick] 30) := hid (blk_keep BP.out hk (fun h => h))
  clear HWS HFS F1 F2 BK BP
  have HWS := HWS'
  clear HWS'
  have HFS := HFS'
  clear HFS'
  have F1 := F1'
  clear F1'
  have F2 := F2'
  clear F2'
  have BK := BK'
  clear BK'
  have BP := BP'
  clear BP'
  have HK' : Hd (Keeps (fun _ => False) w W5) := hid (HK.out.trans hk)
  clear HK
  have HK := HK'
  clear HK'
  have z_W5 := hk.size
  clear hk
  go_wp2
  go_ret
  exact ⟨rfl, HK.out⟩
set_option maxRecDepth 100000 in set_option maxHeartbeats 1000000 in
theorem opens_any (v0 : Value) (l0 : List Int) (fr tt tk : Int) (w : World) (h0 : Sl (fun b => b < w.heap.size) w v0 (i64s l0)) (hl0 : ∀ n ∈ l0, -9223372036854775808 ≤ n ∧ n ≤ 9223372036854775807) (h1 : -9223372036854775808 ≤ fr ∧ fr ≤ 9223372036854775807) (h2 : -9223372036854775808 ≤ tt ∧ tt ≤ 9223372036854775807) (h3 : -9223372036854775808 ≤ tk ∧ tk ≤ 9223372036854775807) :
    Calls Try.prog 10 #[v0, .int .i64 fr, .int .i64 tt, .int .i64 tk] w fun e w' => e = .returned (.bool true) ∧ Keeps (fun _ => False) w w' := by
  have H0 := hid h0; have HL0 := hid hl0; have H1 := hid h1; have H2 := hid h2; have H3 := hid h3
  clear h0 hl0 h1 h2 h3
  go_enter Try.func10, Try.ntmps10
  go_wp2_with fail
  refine (Table_any _ l0 _ H0.out HL0.out).mono ?_
  rintro e W1 ⟨at', nt, ct, ws, rfl, rfl, hw8, hws, hsw, hk⟩
  have HWS := hid hws; have HSW := hid hsw; clear hws hsw
  have HK : Hd (Keeps (fun _ => False) w W1) := hid hk
  have z_W1 := hk.size
  clear hk
  go_wp2_with fail
  refine (Around_any tk 60 _ H3.out.1 H3.out.2 (by omega) (by omega)).mono ?_
  rintro e wx ⟨rfl, rfl⟩
  have b_n := around_b tk (show (1 : Int) ≤ 60 by omega)
  generalize around tk 60 = n at *
  go_wp2_with fail
  refine (Around_any fr 16 _ H1.out.1 H1.out.2 (by omega) (by omega)).mono ?_
  rintro e wx ⟨rfl, rfl⟩
  have b_f1 := around_b fr (show (1 : Int) ≤ 16 by omega)
  generalize around fr 16 = f1 at *
  go_wp2_with fail
  refine (Around_any tt 16 _ H2.out.1 H2.out.2 (by omega) (by omega)).mono ?_
  rintro e wx ⟨rfl, rfl⟩
  have b_t1 := around_b tt (show (1 : Int) ≤ 16 by omega)
  generalize around tt 16 = t1 at *
  go_upto_region 4 with fail
  generalize hW : World.alloc W1 _ = W2
  have KS : Hd (Keeps (fun _ => False) W1 W2) := hid (by rw [← hW]; exact (Keeps.alloc (Keeps.refl (fun _ => False) W1) _))
  have HWS' : Hd (Wins (fun b => w.heap.size ≤ b) W2 (.slice at' ws.length ct) ws) := hid (HWS.out.keep KS.out (fun _ _ _ h => h))
  have BA : Hd (Blk W2 W1.heap.size #[.int .i64 fr, .int .i64 tt, .int .i64 (f1 - 1), .int .i64 (t1 - 1)] 53) := hid (by rw [← hW]; exact (blk_new _ _ _))
  clear HWS
  have HWS := HWS'
  clear HWS'
  have HK' : Hd (Keeps (fun _ => False) w W2) := hid (HK.out.trans KS.out)
  clear HK
  have HK := HK'
  clear HK'
  have z_W2 : W1.heap.size + 1 ≤ W2.heap.size := by rw [← hW]; simp
  clear hW KS
  go_wp2_with fail
  go_loopw [12] (fun i wr => ∃ k : Nat, i = .int .i64 k ∧ k ≤ 2 ∧ Hd (Keeps (fun _ => False) W2 wr)) (fun i _ => 2 - (intOf i).toNat)
  case atStart => exact ⟨0, rfl, by omega, hid (Keeps.refl _ _)⟩
  case round =>
    obtain ⟨k, rfl, hk2, KR⟩ := hrel
    have hk := KR.out
    have HWS' : Hd (Wins (fun b => w.heap.size ≤ b) wr (.slice at' ws.length ct) ws) := hid (HWS.out.keep hk (fun _ _ _ h => h))
    have BA' : Hd (Blk wr W1.heap.size #[.int .i64 fr, .int .i64 tt, .int .i64 (f1 - 1), .int .i64 (t1 - 1)] 53) := hid (blk_keep BA.out hk (fun h => h))
    clear HWS BA
    have HWS := HWS'
    clear HWS'
    have BA := BA'
    clear BA'
    have HK' : Hd (Keeps (fun _ => False) w wr) := hid (HK.out.trans hk)
    clear HK
    have HK := HK'
    clear HK'
    have z_wr := hk.size
    clear hk
    have KC : Hd (Keeps (fun _ => False) wr wr) := hid (Keeps.refl _ _)
    have HWO : Hd (∀ V, Keeps (fun _ => False) wr V → Wins (fun b => b < V.heap.size) V (.slice at' ws.length ct) ws) := hid (fun V hk => (HWS.out.keep hk (fun _ _ _ h => h)).mono (fun b h _ => h))
    have HEQ : Hd (∀ a b : Int, refOpenB ws a b n = OpenB ws a b n ∧ OpenB ws b a n = OpenB ws a b n) := hid (fun a b => ⟨by unfold refOpenB OpenB; rw [refW_eq HSW.out], by unfold OpenB; rw [winW_comm]⟩)
    have main : ∀ (a b : Int), wr.cell? ⟨W1.heap.size, k * 2, none⟩ = some (.int .i64 a) → wr.cell? ⟨W1.heap.size, k * 2 + 1, none⟩ = some (.int .i64 b) → True := fun _ _ _ _ => trivial
    clear main
    rcases (show k = 0 ∨ k = 1 ∨ k = 2 by omega) with rfl | rfl | rfl
    · have o_BA_0 : wr.cell? ⟨W1.heap.size, 0, none⟩ = some (.int .i64 fr) := blk_cell BA.out 0
      have o_BA_1 : wr.cell? ⟨W1.heap.size, 1, none⟩ = some (.int .i64 tt) := blk_cell BA.out 1
      have r1 : -9223372036854775808 ≤ fr ∧ fr ≤ 9223372036854775807 := H1.out
      have r2 : -9223372036854775808 ≤ tt ∧ tt ≤ 9223372036854775807 := H2.out
      obtain ⟨q, hq⟩ : ∃ q, OpenB ws fr tt n = q := ⟨_, rfl⟩
      have HQ := hid hq
      have HQ2 : Hd (OpenB ws tt fr n = q) := hid ((HEQ.out fr tt).2.trans hq)
      have HQ3 : Hd (refOpenB ws fr tt n = q) := hid ((HEQ.out fr tt).1.trans hq)
      clear hq
      have qn : (q != q) = false := by simp
      have R1 := hid r1; have R2 := hid r2; clear r1 r2
      go_wp2_with (first | (go_at_call 30; (with_reducible refine (Open_any _ ws fr tt n _ (HWO.out _ (by repeat (first | (with_reducible exact KC.out) | (with_reducible exact Keeps.refl _ _) | (with_reducible apply Keeps.drewN) | (with_reducible apply Keeps.drew) | (with_reducible apply Keeps.alloc)))) R1.out R2.out).mono ?_); rw [HQ.out]; rintro e wy ⟨rfl, hk⟩; have KC2 : Hd (Keeps (fun _ => False) wr wy) := hid (Keeps.trans (S := fun _ => False) (by repeat (first | (with_reducible exact KC.out) | (with_reducible exact Keeps.refl _ _) | (with_reducible apply Keeps.drewN) | (with_reducible apply Keeps.drew) | (with_reducible apply Keeps.alloc))) hk); replace KC := KC2; clear KC2 hk) | (go_at_call 30; (with_reducible refine (Open_any _ ws tt fr n _ (HWO.out _ (by repeat (first | (with_reducible exact KC.out) | (with_reducible exact Keeps.refl _ _) | (with_reducible apply Keeps.drewN) | (with_reducible apply Keeps.drew) | (with_reducible apply Keeps.alloc)))) R2.out R1.out).mono ?_); rw [HQ2.out]; rintro e wy ⟨rfl, hk⟩; have KC2 : Hd (Keeps (fun _ => False) wr wy) := hid (Keeps.trans (S := fun _ => False) (by repeat (first | (with_reducible exact KC.out) | (with_reducible exact Keeps.refl _ _) | (with_reducible apply Keeps.drewN) | (with_reducible apply Keeps.drew) | (with_reducible apply Keeps.alloc))) hk); replace KC := KC2; clear KC2 hk) | (go_at_call 31; (with_reducible refine (refOpen_any _ ws fr tt n _ (HWO.out _ (by repeat (first | (with_reducible exact KC.out) | (with_reducible exact Keeps.refl _ _) | (with_reducible apply Keeps.drewN) | (with_reducible apply Keeps.drew) | (with_reducible apply Keeps.alloc)))) R1.out R2.out).mono ?_); rw [HQ3.out]; rintro e wy ⟨rfl, hk⟩; have KC2 : Hd (Keeps (fun _ => False) wr wy) := hid (Keeps.trans (S := fun _ => False) (by repeat (first | (with_reducible exact KC.out) | (with_reducible exact Keeps.refl _ _) | (with_reducible apply Keeps.drewN) | (with_reducible apply Keeps.drew) | (with_reducible apply Keeps.alloc))) hk); replace KC := KC2; clear KC2 hk))
      all_goals
        go_roundw
        case rel => exact ⟨1, by go_num, by omega, hid (KR.out.trans (S := fun _ => False) (by repeat (first | (with_reducible exact KC.out) | (with_reducible exact Keeps.refl _ _) | (with_reducible apply Keeps.drewN) | (with_reducible apply Keeps.drew) | (with_reducible apply Keeps.alloc))))⟩
        case measure => simp [intOf]
    · have o_BA_2 : wr.cell? ⟨W1.heap.size, 2, none⟩ = some (.int .i64 (f1 - 1)) := blk_cell BA.out 2
      have o_BA_3 : wr.cell? ⟨W1.heap.size, 3, none⟩ = some (.int .i64 (t1 - 1)) := blk_cell BA.out 3
      have r1 : -9223372036854775808 ≤ (f1 - 1) ∧ (f1 - 1) ≤ 9223372036854775807 := by omega
      have r2 : -9223372036854775808 ≤ (t1 - 1) ∧ (t1 - 1) ≤ 9223372036854775807 := by omega
      generalize hx1 : f1 - 1 = f2 at *
      generalize hy1 : t1 - 1 = t2 at *
      clear hx1 hy1
      obtain ⟨q, hq⟩ : ∃ q, OpenB ws f2 t2 n = q := ⟨_, rfl⟩
      have HQ := hid hq
      have HQ2 : Hd (OpenB ws t2 f2 n = q) := hid ((HEQ.out f2 t2).2.trans hq)
      have HQ3 : Hd (refOpenB ws f2 t2 n = q) := hid ((HEQ.out f2 t2).1.trans hq)
      clear hq
      have qn : (q != q) = false := by simp
      have R1 := hid r1; have R2 := hid r2; clear r1 r2
      go_wp2_with (first | (go_at_call 30; (with_reducible refine (Open_any _ ws f2 t2 n _ (HWO.out _ (by repeat (first | (with_reducible exact KC.out) | (with_reducible exact Keeps.refl _ _) | (with_reducible apply Keeps.drewN) | (with_reducible apply Keeps.drew) | (with_reducible apply Keeps.alloc)))) R1.out R2.out).mono ?_); rw [HQ.out]; rintro e wy ⟨rfl, hk⟩; have KC2 : Hd (Keeps (fun _ => False) wr wy) := hid (Keeps.trans (S := fun _ => False) (by repeat (first | (with_reducible exact KC.out) | (with_reducible exact Keeps.refl _ _) | (with_reducible apply Keeps.drewN) | (with_reducible apply Keeps.drew) | (with_reducible apply Keeps.alloc))) hk); replace KC := KC2; clear KC2 hk) | (go_at_call 30; (with_reducible refine (Open_any _ ws t2 f2 n _ (HWO.out _ (by repeat (first | (with_reducible exact KC.out) | (with_reducible exact Keeps.refl _ _) | (with_reducible apply Keeps.drewN) | (with_reducible apply Keeps.drew) | (with_reducible apply Keeps.alloc)))) R2.out R1.out).mono ?_); rw [HQ2.out]; rintro e wy ⟨rfl, hk⟩; have KC2 : Hd (Keeps (fun _ => False) wr wy) := hid (Keeps.trans (S := fun _ => False) (by repeat (first | (with_reducible exact KC.out) | (with_reducible exact Keeps.refl _ _) | (with_reducible apply Keeps.drewN) | (with_reducible apply Keeps.drew) | (with_reducible apply Keeps.alloc))) hk); replace KC := KC2; clear KC2 hk) | (go_at_call 31; (with_reducible refine (refOpen_any _ ws f2 t2 n _ (HWO.out _ (by repeat (first | (with_reducible exact KC.out) | (with_reducible exact Keeps.refl _ _) | (with_reducible apply Keeps.drewN) | (with_reducible apply Keeps.drew) | (with_reducible apply Keeps.alloc)))) R1.out R2.out).mono ?_); rw [HQ3.out]; rintro e wy ⟨rfl, hk⟩; have KC2 : Hd (Keeps (fun _ => False) wr wy) := hid (Keeps.trans (S := fun _ => False) (by repeat (first | (with_reducible exact KC.out) | (with_reducible exact Keeps.refl _ _) | (with_reducible apply Keeps.drewN) | (with_reducible apply Keeps.drew) | (with_reducible apply Keeps.alloc))) hk); replace KC := KC2; clear KC2 hk))
      all_goals
        go_roundw
        case rel => exact ⟨2, by go_num, by omega, hid (KR.out.trans (S := fun _ => False) (by repeat (first | (with_reducible exact KC.out) | (with_reducible exact Keeps.refl _ _) | (with_reducible apply Keeps.drewN) | (with_reducible apply Keeps.drew) | (with_reducible apply Keeps.alloc))))⟩
        case measure => simp [intOf]
    · have HA := hid (At_any (.slice at' ws.length ct) ws 1 1 1 n wr (HWO.out _ (Keeps.refl _ _)))
      obtain ⟨R, hR⟩ : ∃ R, atW ws 1 1 1 n = R := ⟨_, rfl⟩
      have HWE : Hd (OpenB ws 1 13 n = R.isSome) := hid (by rw [← hR]; unfold OpenB winW; rw [show min (1 : Int) 13 = 1 from rfl, show max (1 : Int) 13 = 13 from rfl]; simp)
      rw [hR] at HA
      have HAR := HA.out
      clear HA
      have HRR := hid hR; clear hR
      go_wp2_with fail
      refine (HAR).mono ?_
      rintro e w5 ⟨hp, hk⟩
      have HWS' : Hd (Wins (fun b => w.heap.size ≤ b) w5 (.slice at' ws.length ct) ws) := hid (HWS.out.keep hk (fun _ _ _ h => h))
      have BA' : Hd (Blk w5 W1.heap.size #[.int .i64 fr, .int .i64 tt, .int .i64 (f1 - 1), .int .i64 (t1 - 1)] 53) := hid (blk_keep BA.out hk (fun h => h))
      clear HWS BA
      have HWS := HWS'
      clear HWS'
      have BA := BA'
      clear BA'
      have HK' : Hd (Keeps (fun _ => False) w w5) := hid (HK.out.trans hk)
      clear HK
      have HK := HK'
      clear HK'
      have z_w5 := hk.size
      clear hk
      have HWO5 : Hd (∀ V, Keeps (fun _ => False) w5 V → Wins (fun b => b < V.heap.size) V (.slice at' ws.length ct) ws) := hid (fun V hk => (HWS.out.keep hk (fun _ _ _ h => h)).mono (fun b h _ => h))
      cases R with
      | none =>
        obtain rfl := hp
        go_upto_region 12 with fail
        generalize hW : World.alloc w5 _ = W3
        have KS : Hd (Keeps (fun _ => False) w5 W3) := hid (by rw [← hW]; exact (Keeps.alloc (Keeps.refl (fun _ => False) w5) _))
        have HWS' : Hd (Wins (fun b => w.heap.size ≤ b) W3 (.slice at' ws.length ct) ws) := hid (HWS.out.keep KS.out (fun _ _ _ h => h))
        have BA' : Hd (Blk W3 W1.heap.size #[.int .i64 fr, .int .i64 tt, .int .i64 (f1 - 1), .int .i64 (t1 - 1)] 53) := hid (by rw [← hW]; exact (blk_alloc BA.out _))
        clear HWS BA
        have HWS := HWS'
        clear HWS'
        have BA := BA'
        clear BA'
        have HK' : Hd (Keeps (fun _ => False) w W3) := hid (HK.out.trans KS.out)
        clear HK
        have HK := HK'
        clear HK'
        have z_W3 : w5.heap.size + 1 ≤ W3.heap.size := by rw [← hW]; simp
        clear hW KS
        go_wp2_with fail
        refine (Open_any (.slice at' ws.length ct) ws 1 13 n _ (HWS.out.mono (fun b h _ => h)) (by omega) (by omega)).mono ?_
        rw [HWE.out]
        rintro e W4 ⟨rfl, hk⟩
        have HWS' : Hd (Wins (fun b => w.heap.size ≤ b) W4 (.slice at' ws.length ct) ws) := hid (HWS.out.keep hk (fun _ _ _ h => h))
        have BA' : Hd (Blk W4 W1.heap.size #[.int .i64 fr, .int .i64 tt, .int .i64 (f1 - 1), .int .i64 (t1 - 1)] 53) := hid (blk_keep BA.out hk (fun h => h))
        clear HWS BA
        have HWS := HWS'
        clear HWS'
        have BA := BA'
        clear BA'
        have HK' : Hd (Keeps (fun _ => False) w W4) := hid (HK.out.trans hk)
        clear HK
        have HK := HK'
        clear HK'
        have z_W4 := hk.size
        clear hk
        go_wp2_with fail
        refine (lives_any _).mono ?_
        rintro e W5 ⟨rfl, hk⟩
        have HWS' : Hd (Wins (fun b => w.heap.size ≤ b) W5 (.slice at' ws.length ct) ws) := hid (HWS.out.keep hk (fun _ _ _ h => h))
        have BA' : Hd (Blk W5 W1.heap.size #[.int .i64 fr, .int .i64 tt, .int .i64 (f1 - 1), .int .i64 (t1 - 1)] 53) := hid (blk_keep BA.out hk (fun h => h))
        clear HWS BA
        have HWS := HWS'
        clear HWS'
        have BA := BA'
        clear BA'
        have HK' : Hd (Keeps (fun _ => False) w W5) := hid (HK.out.trans hk)
        clear HK
        have HK := HK'
        clear HK'
        have z_W5 := hk.size
        clear hk
        go_wp2
        go_ret
        exact ⟨rfl, HK.out⟩
      | some x =>
        obtain rfl := hp
        go_upto_region 12 with fail
        generalize hW : World.alloc w5 _ = W3
        have KS : Hd (Keeps (fun _ => False) w5 W3) := hid (by rw [← hW]; exact (Keeps.alloc (Keeps.refl (fun _ => False) w5) _))
        have HWS' : Hd (Wins (fun b => w.heap.size ≤ b) W3 (.slice at' ws.length ct) ws) := hid (HWS.out.keep KS.out (fun _ _ _ h => h))
        have BA' : Hd (Blk W3 W1.heap.size #[.int .i64 fr, .int .i64 tt, .int .i64 (f1 - 1), .int .i64 (t1 - 1)] 53) := hid (by rw [← hW]; exact (blk_alloc BA.out _))
        clear HWS BA
        have HWS := HWS'
        clear HWS'
        have BA := BA'
        clear BA'
        have HK' : Hd (Keeps (fun _ => False) w W3) := hid (HK.out.trans KS.out)
        clear HK
        have HK := HK'
        clear HK'
        have z_W3 : w5.heap.size + 1 ≤ W3.heap.size := by rw [← hW]; simp
        clear hW KS
        go_wp2_with fail
        refine (Open_any (.slice at' ws.length ct) ws 1 13 n _ (HWS.out.mono (fun b h _ => h)) (by omega) (by omega)).mono ?_
        rw [HWE.out]
        rintro e W4 ⟨rfl, hk⟩
        have HWS' : Hd (Wins (fun b => w.heap.size ≤ b) W4 (.slice at' ws.length ct) ws) := hid (HWS.out.keep hk (fun _ _ _ h => h))
        have BA' : Hd (Blk W4 W1.heap.size #[.int .i64 fr, .int .i64 tt, .int .i64 (f1 - 1), .int .i64 (t1 - 1)] 53) := hid (blk_keep BA.out hk (fun h => h))
        clear HWS BA
        have HWS := HWS'
        clear HWS'
        have BA := BA'
        clear BA'
        have HK' : Hd (Keeps (fun _ => False) w W4) := hid (HK.out.trans hk)
        clear HK
        have HK := HK'
        clear HK'
        have z_W4 := hk.size
        clear hk
        go_wp2_with fail
        refine (lives_any _).mono ?_
        rintro e W5 ⟨rfl, hk⟩
        have HWS' : Hd (Wins (fun b => w.heap.size ≤ b) W5 (.slice at' ws.length ct) ws) := hid (HWS.out.keep hk (fun _ _ _ h => h))
        have BA' : Hd (Blk W5 W1.heap.size #[.int .i64 fr, .int .i64 tt, .int .i64 (f1 - 1), .int .i64 (t1 - 1)] 53) := hid (blk_keep BA.out hk (fun h => h))
        clear HWS BA
        have HWS := HWS'
        clear HWS'
        have BA := BA'
        clear BA'
        have HK' : Hd (Keeps (fun _ => False) w W5) := hid (HK.out.trans hk)
        clear HK
        have HK := HK'
        clear HK'
        have z_W5 := hk.size
        clear hk
        go_wp2
        go_ret
        exact ⟨rfl, HK.out⟩
end Go.Proofs.Ytffnocjaljgnoaa
