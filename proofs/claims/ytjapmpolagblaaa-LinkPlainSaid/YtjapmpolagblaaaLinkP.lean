/- Link: the reference's Send. -/
import Derived.Test.YtjapmpolagblaaaLinkO
import Derived.Test.YtjapmpolagblaaaHeld
import Derived.Deep.CutBlock
namespace Go.Proofs.Ytjapmpolagblaaa
open Go.RowKit
attribute [local go_sem ↓] Go.wp_at_zero Go.wp_at_succ
def RefSendPost (KA : Nat → Prop) (w : World) (R : List Flt × Int × Bool) (r : Ending) (w' : World) : Prop := ∃ a n c, r = .returned (.tuple #[.agg #[.slice a n c, .int .i64 R.2.1], .bool R.2.2]) ∧ n = R.1.length ∧ Fls (fun b => KA b ∨ w.heap.size ≤ b) w' (.slice a n c) R.1 ∧ Keeps (fun _ => False) w w'
def FlP (_ : Ft) (t cn fr tt : Int) (d : List Nat) (W : World) (bx : Nat) (cs : Array Value) (wx : World) : Prop := ∃ a c, cs = #[.int .i64 t, .int .i64 cn, .int .i64 fr, .int .i64 tt, .slice a d.length c] ∧ Sl (fun b => W.heap.size ≤ b ∧ b ≠ bx) wx (.slice a d.length c) (u8s d)
set_option maxRecDepth 100000 in set_option maxHeartbeats 1000000 in
theorem refSend_any (KA : Nat → Prop) (vf vt vfs : Value) (l : List Flt) (ws : List Win) (fts : List Ft) (cn tick fr tt : Int) (ad : Option Addr) (cd : Nat) (data : List Nat) (w : World)
    (hl : Fls (fun b => KA b ∧ b < w.heap.size) w vf l) (hws : Wins (fun b => b < w.heap.size) w vt ws) (hfs : Fts (fun b => b < w.heap.size) w vfs fts) (hd : Sl (fun b => b < w.heap.size) w (.slice ad data.length cd) (u8s data)) (hd8 : ∀ c ∈ data, c < 256)
    (hlen : l.length ≤ 900000) (hfl : fts.length ≤ 1000000) (hff : ∀ x ∈ fts, x.fg.length ≤ 1000000000) (hdl : data.length ≤ 1000000000)
    (h1 : -9223372036854775808 ≤ fr ∧ fr ≤ 9223372036854775807) (h2 : -9223372036854775808 ≤ tt ∧ tt ≤ 9223372036854775807) (h3 : 0 ≤ tick ∧ tick ≤ 1000000000000) (h4 : 0 ≤ cn ∧ cn ≤ 1000000000000) :
    Calls Try.prog 15 #[.agg #[vf, .int .i64 cn], vt, vfs, .int .i64 tick, .agg #[.int .i64 fr, .int .i64 tt, .slice ad data.length cd]] w fun e w' => RefSendPost KA w (sendR (refW ws fr tt tick) l cn fts tick fr tt data) e w' := by
  have HL := hid hl; have HWS := hid hws; have HFS := hid hfs; have HDT := hid hd; have HD8 := hid hd8; have HFF := hid hff
  obtain ⟨af, cf, rfl, -⟩ := fls_form hl
  obtain ⟨R, hR⟩ : ∃ R, refW ws fr tt tick = R := ⟨_, rfl⟩
  rw [hR]
  have HR := hid hR
  clear hR hl hws hfs hd hd8 hff
  generalize hdn : data.length = dn at *
  have HDN := hid hdn; clear hdn
  generalize hln : l.length = m at *
  have HLN := hid hln; clear hln
  go_enter Try.func15, Try.ntmps15
  go_upto_region 1 with fail
  generalize hW : World.alloc (World.alloc (World.alloc w _) _) _ = W1
  have KS : Hd (Keeps (fun _ => False) w W1) := hid (by rw [← hW]; exact (Keeps.alloc (Keeps.alloc (Keeps.alloc (Keeps.refl (fun _ => False) w) _) _) _))
  have HL' : Hd (Fls (fun b => KA b ∧ b < w.heap.size) W1 (.slice af m cf) l) := hid (HL.out.keep KS.out (fun _ _ _ h => h))
  have HWS' : Hd (Wins (fun b => b < w.heap.size) W1 vt ws) := hid (HWS.out.keep KS.out (fun _ _ _ h => h))
  have HFS' : Hd (Fts (fun b => b < w.heap.size) W1 vfs fts) := hid (HFS.out.keep KS.out (fun _ _ _ h => h))
  have HDT' : Hd (Sl (fun b => b < w.heap.size) W1 (.slice ad dn cd) (u8s data)) := hid (HDT.out.keep KS.out (fun _ _ _ h => h))
  have BP : Hd (Blk W1 w.heap.size #[.slice af m cf, .int .i64 cn] 28) := hid (by rw [← hW]; exact (blk_alloc (blk_alloc (blk_new _ _ _) _) _))
  have BQ : Hd (Blk W1 (w.heap.size + 1) #[.int .i64 fr, .int .i64 tt, .slice ad dn cd] 37) := hid (by rw [← hW]; exact (blk_alloc (blk_new' _ _ _ _ (by simp)) _))
  have BR : Hd (Blk W1 (w.heap.size + 1 + 1) #[.slice none 0 0, .int .i64 0] 28) := hid (by rw [← hW]; exact (blk_new' _ _ _ _ (by simp)))
  clear HL HWS HFS HDT
  have HL := HL'
  clear HL'
  have HWS := HWS'
  clear HWS'
  have HFS := HFS'
  clear HFS'
  have HDT := HDT'
  clear HDT'
  have HK : Hd (Keeps (fun _ => False) w W1) := hid KS.out
  have z_W1 : w.heap.size + 3 ≤ W1.heap.size := by rw [← hW]; simp
  clear hW KS
  have o_BQ_0 : W1.cell? ⟨w.heap.size + 1, 0, none⟩ = some (.int .i64 fr) := blk_cell BQ.out 0
  have o_BQ_1 : W1.cell? ⟨w.heap.size + 1, 1, none⟩ = some (.int .i64 tt) := blk_cell BQ.out 1
  go_wp2_with fail
  refine (refwindow_any _ ws fr tt tick W1 (HWS.out.mono (fun b h1 _ => h1)) h1 h2).mono ?_
  rw [HR.out]
  rintro e W2 ⟨he, hk⟩
  clear o_BQ_0 o_BQ_1
  have HL' : Hd (Fls (fun b => KA b ∧ b < w.heap.size) W2 (.slice af m cf) l) := hid (HL.out.keep hk (fun _ _ _ h => h))
  have HWS' : Hd (Wins (fun b => b < w.heap.size) W2 vt ws) := hid (HWS.out.keep hk (fun _ _ _ h => h))
  have HFS' : Hd (Fts (fun b => b < w.heap.size) W2 vfs fts) := hid (HFS.out.keep hk (fun _ _ _ h => h))
  have HDT' : Hd (Sl (fun b => b < w.heap.size) W2 (.slice ad dn cd) (u8s data)) := hid (HDT.out.keep hk (fun _ _ _ h => h))
  have BP' : Hd (Blk W2 w.heap.size #[.slice af m cf, .int .i64 cn] 28) := hid (blk_keep BP.out hk (fun h => h))
  have BQ' : Hd (Blk W2 (w.heap.size + 1) #[.int .i64 fr, .int .i64 tt, .slice ad dn cd] 37) := hid (blk_keep BQ.out hk (fun h => h))
  have BR' : Hd (Blk W2 (w.heap.size + 1 + 1) #[.slice none 0 0, .int .i64 0] 28) := hid (blk_keep BR.out hk (fun h => h))
  clear HL HWS HFS HDT BP BQ BR
  have HL := HL'
  clear HL'
  have HWS := HWS'
  clear HWS'
  have HFS := HFS'
  clear HFS'
  have HDT := HDT'
  clear HDT'
  have BP := BP'
  clear BP'
  have BQ := BQ'
  clear BQ'
  have BR := BR'
  clear BR'
  have HK' : Hd (Keeps (fun _ => False) w W2) := hid (HK.out.trans hk)
  clear HK
  have HK := HK'
  clear HK'
  have z_W2 := hk.size
  clear hk
  rcases R with _ | x
  · unfold NextPost at he
    subst he
    go_upto_region 3 with fail
    generalize hW : World.alloc W2 _ = W3
    have KS : Hd (Keeps (fun _ => False) W2 W3) := hid (by rw [← hW]; exact (Keeps.alloc (Keeps.refl (fun _ => False) W2) _))
    have HL' : Hd (Fls (fun b => KA b ∧ b < w.heap.size) W3 (.slice af m cf) l) := hid (HL.out.keep KS.out (fun _ _ _ h => h))
    have HWS' : Hd (Wins (fun b => b < w.heap.size) W3 vt ws) := hid (HWS.out.keep KS.out (fun _ _ _ h => h))
    have HFS' : Hd (Fts (fun b => b < w.heap.size) W3 vfs fts) := hid (HFS.out.keep KS.out (fun _ _ _ h => h))
    have HDT' : Hd (Sl (fun b => b < w.heap.size) W3 (.slice ad dn cd) (u8s data)) := hid (HDT.out.keep KS.out (fun _ _ _ h => h))
    have BP' : Hd (Blk W3 w.heap.size #[.slice af m cf, .int .i64 cn] 28) := hid (by rw [← hW]; exact (blk_alloc BP.out _))
    have BQ' : Hd (Blk W3 (w.heap.size + 1) #[.int .i64 fr, .int .i64 tt, .slice ad dn cd] 37) := hid (by rw [← hW]; exact (blk_alloc BQ.out _))
    have BR' : Hd (Blk W3 (w.heap.size + 1 + 1) #[.slice none 0 0, .int .i64 0] 28) := hid (by rw [← hW]; exact (blk_alloc BR.out _))
    clear HL HWS HFS HDT BP BQ BR
    have HL := HL'
    clear HL'
    have HWS := HWS'
    clear HWS'
    have HFS := HFS'
    clear HFS'
    have HDT := HDT'
    clear HDT'
    have BP := BP'
    clear BP'
    have BQ := BQ'
    clear BQ'
    have BR := BR'
    clear BR'
    have HK' : Hd (Keeps (fun _ => False) w W3) := hid (HK.out.trans KS.out)
    clear HK
    have HK := HK'
    clear HK'
    have z_W3 : W2.heap.size + 1 ≤ W3.heap.size := by rw [← hW]; simp
    clear hW KS
    have o_BP_0 : W3.cell? ⟨w.heap.size, 0, none⟩ = some (.slice af m cf) := blk_cell BP.out 0
    have o_BP_1 : W3.cell? ⟨w.heap.size, 1, none⟩ = some (.int .i64 cn) := blk_cell BP.out 1
    have o_BR_0 : W3.cell? ⟨w.heap.size + 1 + 1, 0, none⟩ = some (.slice none 0 0) := blk_cell BR.out 0
    have o_BR_1 : W3.cell? ⟨w.heap.size + 1 + 1, 1, none⟩ = some (.int .i64 0) := blk_cell BR.out 1
    have f_BR_0 : W3.frozen? ⟨w.heap.size + 1 + 1, 0, none⟩ = false := blk_free BR.out 0
    have f_BR_1 : W3.frozen? ⟨w.heap.size + 1 + 1, 1, none⟩ = false := blk_free BR.out 1
    obtain ⟨KF, F2⟩ := fin2 HK.out (b := w.heap.size + 1 + 1) (by omega) BR.out (.slice af m cf) (.int .i64 cn)
    have KS2 : Hd (Keeps (fun b => b = w.heap.size + 1 + 1) W3 _) := hid (keq (keq (Keeps.refl _ W3) 0 (.slice af m cf)) 1 (.int .i64 cn))
    have r0 := blk_cell F2 0
    have r1 := blk_cell F2 1
    have HKF := hid KF
    clear KF F2
    go_wp2
    refine bodyPost_ret (v := .tuple #[.agg #[.slice af m cf, .int .i64 cn], .bool false]) (by simp [results, Try.results15, go_sem, r0, r1]) rfl ?_
    exact ⟨af, m, cf, rfl, HLN.out.symm, (HL.out.keep KS2.out (fun b _ h1 h2 => by omega)).mono (fun _ _ h => .inl h.1), HKF.out⟩
  · unfold NextPost at he
    subst he
    go_upto_region 2 with fail
    generalize hW : World.alloc W2 _ = W3
    have KS : Hd (Keeps (fun _ => False) W2 W3) := hid (by rw [← hW]; exact (Keeps.alloc (Keeps.refl (fun _ => False) W2) _))
    have HL' : Hd (Fls (fun b => KA b ∧ b < w.heap.size) W3 (.slice af m cf) l) := hid (HL.out.keep KS.out (fun _ _ _ h => h))
    have HWS' : Hd (Wins (fun b => b < w.heap.size) W3 vt ws) := hid (HWS.out.keep KS.out (fun _ _ _ h => h))
    have HFS' : Hd (Fts (fun b => b < w.heap.size) W3 vfs fts) := hid (HFS.out.keep KS.out (fun _ _ _ h => h))
    have HDT' : Hd (Sl (fun b => b < w.heap.size) W3 (.slice ad dn cd) (u8s data)) := hid (HDT.out.keep KS.out (fun _ _ _ h => h))
    have BP' : Hd (Blk W3 w.heap.size #[.slice af m cf, .int .i64 cn] 28) := hid (by rw [← hW]; exact (blk_alloc BP.out _))
    have BQ' : Hd (Blk W3 (w.heap.size + 1) #[.int .i64 fr, .int .i64 tt, .slice ad dn cd] 37) := hid (by rw [← hW]; exact (blk_alloc BQ.out _))
    have BR' : Hd (Blk W3 (w.heap.size + 1 + 1) #[.slice none 0 0, .int .i64 0] 28) := hid (by rw [← hW]; exact (blk_alloc BR.out _))
    have BW : Hd (Blk W3 W2.heap.size #[.int .i64 x.k, .int .i64 x.a, .int .i64 x.b, .int .i64 x.f, .int .i64 x.u, .int .i64 x.r] 54) := hid (by rw [← hW]; exact (blk_new _ _ _))
    clear HL HWS HFS HDT BP BQ BR
    have HL := HL'
    clear HL'
    have HWS := HWS'
    clear HWS'
    have HFS := HFS'
    clear HFS'
    have HDT := HDT'
    clear HDT'
    have BP := BP'
    clear BP'
    have BQ := BQ'
    clear BQ'
    have BR := BR'
    clear BR'
    have HK' : Hd (Keeps (fun _ => False) w W3) := hid (HK.out.trans KS.out)
    clear HK
    have HK := HK'
    clear HK'
    have z_W3 : W2.heap.size + 1 ≤ W3.heap.size := by rw [← hW]; simp
    clear hW KS
    by_cases hxr : x.r < dn
    · have d1 : decide (x.r < (dn : Int)) = true := by simp; exact hxr
      have HSR : Hd (sendR (some x) l cn fts tick fr tt data = (l, cn, false)) := hid (by unfold sendR; simp only []; rw [if_pos (by rw [HDN.out]; exact hxr)])
      clear hxr
      have o_BQ_2 : W3.cell? ⟨w.heap.size + 1, 2, none⟩ = some (.slice ad dn cd) := blk_cell BQ.out 2
      have o_BW_5 : W3.cell? ⟨W2.heap.size, 5, none⟩ = some (.int .i64 x.r) := blk_cell BW.out 5
      have o_BP_0 : W3.cell? ⟨w.heap.size, 0, none⟩ = some (.slice af m cf) := blk_cell BP.out 0
      have o_BP_1 : W3.cell? ⟨w.heap.size, 1, none⟩ = some (.int .i64 cn) := blk_cell BP.out 1
      have o_BR_0 : W3.cell? ⟨w.heap.size + 1 + 1, 0, none⟩ = some (.slice none 0 0) := blk_cell BR.out 0
      have o_BR_1 : W3.cell? ⟨w.heap.size + 1 + 1, 1, none⟩ = some (.int .i64 0) := blk_cell BR.out 1
      have f_BR_0 : W3.frozen? ⟨w.heap.size + 1 + 1, 0, none⟩ = false := blk_free BR.out 0
      have f_BR_1 : W3.frozen? ⟨w.heap.size + 1 + 1, 1, none⟩ = false := blk_free BR.out 1
      obtain ⟨KF, F2⟩ := fin2 HK.out (b := w.heap.size + 1 + 1) (by omega) BR.out (.slice af m cf) (.int .i64 cn)
      have KS2 : Hd (Keeps (fun b => b = w.heap.size + 1 + 1) W3 _) := hid (keq (keq (Keeps.refl _ W3) 0 (.slice af m cf)) 1 (.int .i64 cn))
      have r0 := blk_cell F2 0
      have r1 := blk_cell F2 1
      have HKF := hid KF
      clear KF F2
      go_wp2
      refine bodyPost_ret (v := .tuple #[.agg #[.slice af m cf, .int .i64 cn], .bool false]) (by simp [results, Try.results15, go_sem, r0, r1]) rfl ?_
      rw [HSR.out]
      exact ⟨af, m, cf, rfl, HLN.out.symm, (HL.out.keep KS2.out (fun b _ h1 h2 => by omega)).mono (fun _ _ h => .inl h.1), HKF.out⟩
    · have d1 : decide (x.r < (dn : Int)) = false := by simp; omega
      have HSR : Hd (sendR (some x) l cn fts tick fr tt data = (sentL l (fateL fts cn) cn tick fr tt data (delays (fateL fts cn)), cn + 1, true)) := hid (by unfold sendR; simp only []; rw [if_neg (by rw [HDN.out]; exact hxr)])
      clear hxr
      obtain ⟨f, hf⟩ : ∃ f, fateL fts cn = f := ⟨_, rfl⟩
      rw [hf] at HSR
      have HFE := hid hf; clear hf
      have HFG : Hd (f.fg.length ≤ 1000000000) := hid (by rw [← HFE.out]; unfold fateL; cases hx : fts.find? (fun x => x.m == cn) with | none => simp [Ft.nil] | some y => exact HFF.out y (List.mem_of_find?_eq_some hx))
      have o_BQ_2 : W3.cell? ⟨w.heap.size + 1, 2, none⟩ = some (.slice ad dn cd) := blk_cell BQ.out 2
      have o_BW_5 : W3.cell? ⟨W2.heap.size, 5, none⟩ = some (.int .i64 x.r) := blk_cell BW.out 5
      have o_BP_1 : W3.cell? ⟨w.heap.size, 1, none⟩ = some (.int .i64 cn) := blk_cell BP.out 1
      go_wp2_with fail
      refine (refFate_any (fun b => b < w.heap.size) _ fts cn W3 HFS.out hfl).mono ?_
      rw [HFE.out]
      rintro e W4 ⟨vv, rfl, ⟨ag, cg, rfl, hsf⟩, hk⟩
      have SF := hid hsf; clear hsf
      clear o_BQ_2 o_BW_5 o_BP_1
      have HL' : Hd (Fls (fun b => KA b ∧ b < w.heap.size) W4 (.slice af m cf) l) := hid (HL.out.keep hk (fun _ _ _ h => h))
      have HWS' : Hd (Wins (fun b => b < w.heap.size) W4 vt ws) := hid (HWS.out.keep hk (fun _ _ _ h => h))
      have HFS' : Hd (Fts (fun b => b < w.heap.size) W4 vfs fts) := hid (HFS.out.keep hk (fun _ _ _ h => h))
      have HDT' : Hd (Sl (fun b => b < w.heap.size) W4 (.slice ad dn cd) (u8s data)) := hid (HDT.out.keep hk (fun _ _ _ h => h))
      have BP' : Hd (Blk W4 w.heap.size #[.slice af m cf, .int .i64 cn] 28) := hid (blk_keep BP.out hk (fun h => h))
      have BQ' : Hd (Blk W4 (w.heap.size + 1) #[.int .i64 fr, .int .i64 tt, .slice ad dn cd] 37) := hid (blk_keep BQ.out hk (fun h => h))
      have BR' : Hd (Blk W4 (w.heap.size + 1 + 1) #[.slice none 0 0, .int .i64 0] 28) := hid (blk_keep BR.out hk (fun h => h))
      have BW' : Hd (Blk W4 W2.heap.size #[.int .i64 x.k, .int .i64 x.a, .int .i64 x.b, .int .i64 x.f, .int .i64 x.u, .int .i64 x.r] 54) := hid (blk_keep BW.out hk (fun h => h))
      clear HL HWS HFS HDT BP BQ BR BW
      have HL := HL'
      clear HL'
      have HWS := HWS'
      clear HWS'
      have HFS := HFS'
      clear HFS'
      have HDT := HDT'
      clear HDT'
      have BP := BP'
      clear BP'
      have BQ := BQ'
      clear BQ'
      have BR := BR'
      clear BR'
      have BW := BW'
      clear BW'
      have HK' : Hd (Keeps (fun _ => False) w W4) := hid (HK.out.trans hk)
      clear HK
      have HK := HK'
      clear HK'
      have z_W4 := hk.size
      clear hk
      go_upto_region 5 with fail
      generalize hW : World.alloc W4 _ = W5
      have KS : Hd (Keeps (fun _ => False) W4 W5) := hid (by rw [← hW]; exact (Keeps.alloc (Keeps.refl (fun _ => False) W4) _))
      have HL' : Hd (Fls (fun b => KA b ∧ b < w.heap.size) W5 (.slice af m cf) l) := hid (HL.out.keep KS.out (fun _ _ _ h => h))
      have HWS' : Hd (Wins (fun b => b < w.heap.size) W5 vt ws) := hid (HWS.out.keep KS.out (fun _ _ _ h => h))
      have HFS' : Hd (Fts (fun b => b < w.heap.size) W5 vfs fts) := hid (HFS.out.keep KS.out (fun _ _ _ h => h))
      have HDT' : Hd (Sl (fun b => b < w.heap.size) W5 (.slice ad dn cd) (u8s data)) := hid (HDT.out.keep KS.out (fun _ _ _ h => h))
      have BP' : Hd (Blk W5 w.heap.size #[.slice af m cf, .int .i64 cn] 28) := hid (by rw [← hW]; exact (blk_alloc BP.out _))
      have BQ' : Hd (Blk W5 (w.heap.size + 1) #[.int .i64 fr, .int .i64 tt, .slice ad dn cd] 37) := hid (by rw [← hW]; exact (blk_alloc BQ.out _))
      have BR' : Hd (Blk W5 (w.heap.size + 1 + 1) #[.slice none 0 0, .int .i64 0] 28) := hid (by rw [← hW]; exact (blk_alloc BR.out _))
      have BW' : Hd (Blk W5 W2.heap.size #[.int .i64 x.k, .int .i64 x.a, .int .i64 x.b, .int .i64 x.f, .int .i64 x.u, .int .i64 x.r] 54) := hid (by rw [← hW]; exact (blk_alloc BW.out _))
      have SF' : Hd (Sl (fun b => b < w.heap.size) W5 (.slice ag f.fg.length cg) (u8s f.fg)) := hid (SF.out.keep KS.out (fun _ _ _ h => h))
      have BF : Hd (Blk W5 W4.heap.size #[.int .i64 f.m, .int .i64 f.k, .int .i64 f.dl, .int .i64 f.a, .slice ag f.fg.length cg] 64) := hid (by rw [← hW]; exact (blk_new _ _ _))
      clear HL HWS HFS HDT BP BQ BR BW SF
      have HL := HL'
      clear HL'
      have HWS := HWS'
      clear HWS'
      have HFS := HFS'
      clear HFS'
      have HDT := HDT'
      clear HDT'
      have BP := BP'
      clear BP'
      have BQ := BQ'
      clear BQ'
      have BR := BR'
      clear BR'
      have BW := BW'
      clear BW'
      have SF := SF'
      clear SF'
      have HK' : Hd (Keeps (fun _ => False) w W5) := hid (HK.out.trans KS.out)
      clear HK
      have HK := HK'
      clear HK'
      have z_W5 : W4.heap.size + 1 ≤ W5.heap.size := by rw [← hW]; simp
      clear hW KS
      have o_BF_2 : W5.cell? ⟨W4.heap.size, 2, none⟩ = some (.int .i64 f.dl) := blk_cell BF.out 2
      go_cut [15] from 42 to 45 (fun u wx => u = .int .i64 (dl0 f) ∧ wx = W5)
      case first =>
        have hd0 : (f.dl < 0 ∧ dl0 f = 0) ∨ (0 ≤ f.dl ∧ f.dl ≤ 1000 ∧ dl0 f = f.dl) ∨ (1000 < f.dl ∧ dl0 f = 1000) := by unfold dl0; omega
        rcases hd0 with ⟨g1, g2⟩ | ⟨g1, g2, g3⟩ | ⟨g1, g2⟩
        · have HG := hid g2; clear g2
          go_wp2_with fail
          all_goals (first | (go_meet; rw [HG.out]; first | exact ⟨rfl, rfl⟩ | exact ⟨congrArg (Value.int .i64) (by omega), rfl⟩) | (exfalso; omega))
        · have HG := hid g3; clear g3
          go_wp2_with fail
          all_goals (first | (go_meet; rw [HG.out]; first | exact ⟨rfl, rfl⟩ | exact ⟨congrArg (Value.int .i64) (by omega), rfl⟩) | (exfalso; omega))
        · have HG := hid g2; clear g2
          go_wp2_with fail
          all_goals (first | (go_meet; rw [HG.out]; first | exact ⟨rfl, rfl⟩ | exact ⟨congrArg (Value.int .i64) (by omega), rfl⟩) | (exfalso; omega))
      case rest =>
        clear o_BF_2
        obtain ⟨rfl, rfl⟩ := hcut
        generalize wc = w6 at *
        have hd0 : 0 ≤ dl0 f ∧ dl0 f ≤ 1000 := by unfold dl0; omega
        generalize hdl0 : dl0 f = dl at *
        have HDL0 := hid hdl0; clear hdl0
        have u1 : IntKind.i64.wrap (tick + 1) = tick + 1 := IntWalk.i64_in _ (by omega)
        have u2 : IntKind.i64.wrap (tick + 1 + dl) = tick + 1 + dl := IntWalk.i64_in _ (by omega)
        go_upto_region 6 with fail
        go_cut [16] from 46 to 61 (fun u16 wx => CutF w6 59 (FlP f (tick + 1 + dl) cn fr tt (spoilL data f) w6) u16 wx)
        case first =>
          have KC : Hd (Keeps (fun _ => False) w6 w6) := hid (Keeps.refl _ _)
          have HSS : Hd (∀ w', Keeps (fun _ => False) w6 w' → (w'.cell? ⟨W4.heap.size, 0, none⟩ = some (.int .i64 f.m) ∧ w'.cell? ⟨W4.heap.size, 1, none⟩ = some (.int .i64 f.k) ∧ w'.cell? ⟨W4.heap.size, 2, none⟩ = some (.int .i64 f.dl) ∧ w'.cell? ⟨W4.heap.size, 3, none⟩ = some (.int .i64 f.a) ∧ w'.cell? ⟨W4.heap.size, 4, none⟩ = some (.slice ag f.fg.length cg) ∧ w'.cell? ⟨w.heap.size, 1, none⟩ = some (.int .i64 cn) ∧ w'.cell? ⟨w.heap.size + 1, 0, none⟩ = some (.int .i64 fr) ∧ w'.cell? ⟨w.heap.size + 1, 1, none⟩ = some (.int .i64 tt) ∧ w'.cell? ⟨w.heap.size + 1, 2, none⟩ = some (.slice ad dn cd))) := hid (fun w' hk => ⟨blk_cell (blk_keep BF.out hk (fun h => h)) 0, blk_cell (blk_keep BF.out hk (fun h => h)) 1, blk_cell (blk_keep BF.out hk (fun h => h)) 2, blk_cell (blk_keep BF.out hk (fun h => h)) 3, blk_cell (blk_keep BF.out hk (fun h => h)) 4, blk_cell (blk_keep BP.out hk (fun h => h)) 1, blk_cell (blk_keep BQ.out hk (fun h => h)) 0, blk_cell (blk_keep BQ.out hk (fun h => h)) 1, blk_cell (blk_keep BQ.out hk (fun h => h)) 2⟩)
          go_region_held (fun w' => w'.cell? ⟨W4.heap.size, 0, none⟩ = some (.int .i64 f.m) ∧ w'.cell? ⟨W4.heap.size, 1, none⟩ = some (.int .i64 f.k) ∧ w'.cell? ⟨W4.heap.size, 2, none⟩ = some (.int .i64 f.dl) ∧ w'.cell? ⟨W4.heap.size, 3, none⟩ = some (.int .i64 f.a) ∧ w'.cell? ⟨W4.heap.size, 4, none⟩ = some (.slice ag f.fg.length cg) ∧ w'.cell? ⟨w.heap.size, 1, none⟩ = some (.int .i64 cn) ∧ w'.cell? ⟨w.heap.size + 1, 0, none⟩ = some (.int .i64 fr) ∧ w'.cell? ⟨w.heap.size + 1, 1, none⟩ = some (.int .i64 tt) ∧ w'.cell? ⟨w.heap.size + 1, 2, none⟩ = some (.slice ad dn cd)) (exact HSS.out _ (by repeat (first | (with_reducible exact KC.out) | (with_reducible exact Keeps.refl _ _) | (with_reducible apply Keeps.drewN) | (with_reducible apply Keeps.drew) | (with_reducible apply Keeps.alloc) | (refine Keeps.setCell ?_ (.inr (by first | exact Nat.le_refl _ | (simp; done) | (simp; omega) | omega)) _))))
            (first
            | (go_at_call 29; (refine (refSpoil_any _ data _ f _ ((HDT.out.keep (by repeat (first | (with_reducible exact KC.out) | (with_reducible exact Keeps.refl _ _) | (with_reducible apply Keeps.drewN) | (with_reducible apply Keeps.drew) | (with_reducible apply Keeps.alloc))) (fun _ _ _ h => h)).mono (fun b _ h => by have := Keeps.size (S := fun _ => False) (w := w6) (by repeat (first | (with_reducible exact KC.out) | (with_reducible exact Keeps.refl _ _) | (with_reducible apply Keeps.drewN) | (with_reducible apply Keeps.drew) | (with_reducible apply Keeps.alloc))); omega)) ⟨ag, cg, rfl, (SF.out.keep (by repeat (first | (with_reducible exact KC.out) | (with_reducible exact Keeps.refl _ _) | (with_reducible apply Keeps.drewN) | (with_reducible apply Keeps.drew) | (with_reducible apply Keeps.alloc))) (fun _ _ _ h => h)).mono (fun b h1 _ => h1)⟩ HD8.out (by rw [HDN.out]; exact hdl) HFG.out).mono ?_); rintro e wy0 ⟨a6, c6, rfl, hs6, hk⟩; have KC2 : Hd (Keeps (fun _ => False) w6 wy0) := hid (Keeps.trans (S := fun _ => False) (by repeat (first | (with_reducible exact KC.out) | (with_reducible exact Keeps.refl _ _) | (with_reducible apply Keeps.drewN) | (with_reducible apply Keeps.drew) | (with_reducible apply Keeps.alloc))) hk); have zc := KC.out.size; have HS6 := hid hs6; clear hs6; (first | (have HNB2 := hid (blk_keep HNB.out hk (fun h => h)); replace HNB := HNB2; clear HNB2) | (have HNB := new_blk (W := w6) (cs := #[.int .i64 0, .int .i64 0, .int .i64 0, .int .i64 0, .slice none 0 0]) (T := 59) hk rfl) | skip); replace KC := KC2; clear KC2; (try (have F0 := blk_cell HNB.out 0; have G0 := blk_free HNB.out 0; have F1 := blk_cell HNB.out 1; have G1 := blk_free HNB.out 1; have F2 := blk_cell HNB.out 2; have G2 := blk_free HNB.out 2; have F3 := blk_cell HNB.out 3; have G3 := blk_free HNB.out 3; have F4 := blk_cell HNB.out 4; have G4 := blk_free HNB.out 4)); have zk := hk.size; (try simp at zk); have zd := KC.out.size; replace hk := hid hk))
          all_goals
            go_wp2_with fail
            go_meet
            first | ((with_reducible refine cutF_new KC.out ?_); exact (fun w' hk => ⟨a6, c6, rfl, (HS6.out.mono (K' := fun b => w6.heap.size ≤ b ∧ b ≠ wy0.heap.size) (fun b h1 h => by (try simp at h); omega)).keep hk (fun _ _ _ h => h)⟩)) | ((with_reducible refine cutF_old5 KC.out (by first | exact Nat.le_refl _ | omega | (simp; done) | (simp; omega)) HNB.out ?_); exact (fun w' hk => ⟨a6, c6, rfl, (HS6.out.keep hk (fun b _ h1 h2 => by (try simp at h1); omega)).mono (fun b _ h => by (try simp at h); omega)⟩)) | ((with_reducible refine cutF_drew (fun _ _ _ h => h) (cutF_new KC.out ?_)); exact (fun w' hk => ⟨a6, c6, rfl, (HS6.out.mono (K' := fun b => w6.heap.size ≤ b ∧ b ≠ wy0.heap.size) (fun b h1 h => by (try simp at h); omega)).keep hk (fun _ _ _ h => h)⟩)) | ((with_reducible refine cutF_drew (fun _ _ _ h => h) (cutF_old5 KC.out (by first | exact Nat.le_refl _ | omega | (simp; done) | (simp; omega)) HNB.out ?_)); exact (fun w' hk => ⟨a6, c6, rfl, (HS6.out.keep hk (fun b _ h1 h2 => by (try simp at h1); omega)).mono (fun b _ h => by (try simp at h); omega)⟩))
        case rest =>
          obtain ⟨b_BX, cs_BX, rfl, hb_BX, BX, HP, hk⟩ := hcut
          replace hk := hk.out
          generalize wc = W6 at *
          have HL' : Hd (Fls (fun b => KA b ∧ b < w.heap.size) W6 (.slice af m cf) l) := hid (HL.out.keep hk (fun _ _ _ h => h))
          have HWS' : Hd (Wins (fun b => b < w.heap.size) W6 vt ws) := hid (HWS.out.keep hk (fun _ _ _ h => h))
          have HFS' : Hd (Fts (fun b => b < w.heap.size) W6 vfs fts) := hid (HFS.out.keep hk (fun _ _ _ h => h))
          have HDT' : Hd (Sl (fun b => b < w.heap.size) W6 (.slice ad dn cd) (u8s data)) := hid (HDT.out.keep hk (fun _ _ _ h => h))
          have BP' : Hd (Blk W6 w.heap.size #[.slice af m cf, .int .i64 cn] 28) := hid (blk_keep BP.out hk (fun h => h))
          have BQ' : Hd (Blk W6 (w.heap.size + 1) #[.int .i64 fr, .int .i64 tt, .slice ad dn cd] 37) := hid (blk_keep BQ.out hk (fun h => h))
          have BR' : Hd (Blk W6 (w.heap.size + 1 + 1) #[.slice none 0 0, .int .i64 0] 28) := hid (blk_keep BR.out hk (fun h => h))
          have BW' : Hd (Blk W6 W2.heap.size #[.int .i64 x.k, .int .i64 x.a, .int .i64 x.b, .int .i64 x.f, .int .i64 x.u, .int .i64 x.r] 54) := hid (blk_keep BW.out hk (fun h => h))
          have SF' : Hd (Sl (fun b => b < w.heap.size) W6 (.slice ag f.fg.length cg) (u8s f.fg)) := hid (SF.out.keep hk (fun _ _ _ h => h))
          have BF' : Hd (Blk W6 W4.heap.size #[.int .i64 f.m, .int .i64 f.k, .int .i64 f.dl, .int .i64 f.a, .slice ag f.fg.length cg] 64) := hid (blk_keep BF.out hk (fun h => h))
          clear HL HWS HFS HDT BP BQ BR BW SF BF
          have HL := HL'
          clear HL'
          have HWS := HWS'
          clear HWS'
          have HFS := HFS'
          clear HFS'
          have HDT := HDT'
          clear HDT'
          have BP := BP'
          clear BP'
          have BQ := BQ'
          clear BQ'
          have BR := BR'
          clear BR'
          have BW := BW'
          clear BW'
          have SF := SF'
          clear SF'
          have BF := BF'
          clear BF'
          have HK' : Hd (Keeps (fun _ => False) w W6) := hid (HK.out.trans hk)
          clear HK
          have HK := HK'
          clear HK'
          have z_W6 := hk.size
          clear hk
          obtain ⟨a6, c6, rfl, hs6⟩ := HP.out
          have HS6 := hid hs6; clear hs6 HP u1 u2
          have zx : b_BX < W6.heap.size := blk_lt BX.out
          have o_BP_1 : W6.cell? ⟨w.heap.size, 1, none⟩ = some (.int .i64 cn) := blk_cell BP.out 1
          have f_BP_1 : W6.frozen? ⟨w.heap.size, 1, none⟩ = false := blk_free BP.out 1
          go_upto_region 8 with fail
          clear o_BP_1 f_BP_1
          generalize hW : World.setCell W6 _ _ = W7
          have KS : Hd (Keeps (fun b => b = w.heap.size) W6 W7) := hid (by rw [← hW]; exact (Keeps.setCell (S := fun b => b = w.heap.size) (Keeps.refl (fun b => b = w.heap.size) W6) (.inl rfl) _))
          have HL' : Hd (Fls (fun b => KA b ∧ b < w.heap.size) W7 (.slice af m cf) l) := hid (HL.out.keep KS.out (fun b _ h1 h2 => by omega))
          have HWS' : Hd (Wins (fun b => b < w.heap.size) W7 vt ws) := hid (HWS.out.keep KS.out (fun b _ h1 h2 => by omega))
          have HFS' : Hd (Fts (fun b => b < w.heap.size) W7 vfs fts) := hid (HFS.out.keep KS.out (fun b _ h1 h2 => by omega))
          have HDT' : Hd (Sl (fun b => b < w.heap.size) W7 (.slice ad dn cd) (u8s data)) := hid (HDT.out.keep KS.out (fun b _ h1 h2 => by omega))
          have BP' : Hd (Blk W7 w.heap.size #[.slice af m cf, .int .i64 (cn + 1)] 28) := hid (by rw [← hW]; exact (blk_set BP.out 1 _))
          have BQ' : Hd (Blk W7 (w.heap.size + 1) #[.int .i64 fr, .int .i64 tt, .slice ad dn cd] 37) := hid (by rw [← hW]; exact (blk_other BQ.out (by omega) _ _))
          have BR' : Hd (Blk W7 (w.heap.size + 1 + 1) #[.slice none 0 0, .int .i64 0] 28) := hid (by rw [← hW]; exact (blk_other BR.out (by omega) _ _))
          have BW' : Hd (Blk W7 W2.heap.size #[.int .i64 x.k, .int .i64 x.a, .int .i64 x.b, .int .i64 x.f, .int .i64 x.u, .int .i64 x.r] 54) := hid (by rw [← hW]; exact (blk_other BW.out (by omega) _ _))
          have SF' : Hd (Sl (fun b => b < w.heap.size) W7 (.slice ag f.fg.length cg) (u8s f.fg)) := hid (SF.out.keep KS.out (fun b _ h1 h2 => by omega))
          have BF' : Hd (Blk W7 W4.heap.size #[.int .i64 f.m, .int .i64 f.k, .int .i64 f.dl, .int .i64 f.a, .slice ag f.fg.length cg] 64) := hid (by rw [← hW]; exact (blk_other BF.out (by omega) _ _))
          have BX' : Hd (Blk W7 b_BX #[.int .i64 (tick + 1 + dl), .int .i64 cn, .int .i64 fr, .int .i64 tt, .slice a6 (spoilL data f).length c6] 59) := hid (by rw [← hW]; exact (blk_other BX.out (by omega) _ _))
          have HS6' : Hd (Sl (fun b => w6.heap.size ≤ b ∧ b ≠ b_BX) W7 (.slice a6 (spoilL data f).length c6) (u8s (spoilL data f))) := hid (HS6.out.keep KS.out (fun b _ h1 h2 => by omega))
          clear HL HWS HFS HDT BP BQ BR BW SF BF BX HS6
          have HL := HL'
          clear HL'
          have HWS := HWS'
          clear HWS'
          have HFS := HFS'
          clear HFS'
          have HDT := HDT'
          clear HDT'
          have BP := BP'
          clear BP'
          have BQ := BQ'
          clear BQ'
          have BR := BR'
          clear BR'
          have BW := BW'
          clear BW'
          have SF := SF'
          clear SF'
          have BF := BF'
          clear BF'
          have BX := BX'
          clear BX'
          have HS6 := HS6'
          clear HS6'
          have HK' : Hd (Keeps (fun _ => False) w W7) := hid (HK.out.trans' KS.out (fun i hi h => by omega))
          clear HK
          have HK := HK'
          clear HK'
          have z_W7 : W6.heap.size + 0 ≤ W7.heap.size := by rw [← hW]; simp
          clear hW KS
          have o_BF_1 : W7.cell? ⟨W4.heap.size, 1, none⟩ = some (.int .i64 f.k) := blk_cell BF.out 1
          by_cases k1 : f.k = 1
          · have t1 : (f.k == 1) = true := by simp; exact k1
            have HE : Hd (sentL l f cn tick fr tt data (delays f) = l) := hid (by unfold delays; rw [if_pos k1]; rfl)
            clear k1
            have o_BP_0 : W7.cell? ⟨w.heap.size, 0, none⟩ = some (.slice af m cf) := blk_cell BP.out 0
            have o_BP_1 : W7.cell? ⟨w.heap.size, 1, none⟩ = some (.int .i64 (cn + 1)) := blk_cell BP.out 1
            have o_BR_0 : W7.cell? ⟨w.heap.size + 1 + 1, 0, none⟩ = some (.slice none 0 0) := blk_cell BR.out 0
            have o_BR_1 : W7.cell? ⟨w.heap.size + 1 + 1, 1, none⟩ = some (.int .i64 0) := blk_cell BR.out 1
            have f_BR_0 : W7.frozen? ⟨w.heap.size + 1 + 1, 0, none⟩ = false := blk_free BR.out 0
            have f_BR_1 : W7.frozen? ⟨w.heap.size + 1 + 1, 1, none⟩ = false := blk_free BR.out 1
            obtain ⟨KF, F2⟩ := fin2 HK.out (b := w.heap.size + 1 + 1) (by omega) BR.out (.slice af m cf) (.int .i64 (cn + 1))
            have KS2 : Hd (Keeps (fun b => b = w.heap.size + 1 + 1) W7 _) := hid (keq (keq (Keeps.refl _ W7) 0 (.slice af m cf)) 1 (.int .i64 (cn + 1)))
            have r0 := blk_cell F2 0
            have r1 := blk_cell F2 1
            have HKF := hid KF
            clear KF F2
            go_wp2
            refine bodyPost_ret (v := .tuple #[.agg #[.slice af m cf, .int .i64 (cn + 1)], .bool true]) (by simp [results, Try.results15, go_sem, r0, r1]) rfl ?_
            rw [HSR.out, HE.out]
            exact ⟨af, m, cf, rfl, HLN.out.symm, (HL.out.keep KS2.out (fun b _ h1 h2 => by omega)).mono (fun _ _ h => .inl h.1), HKF.out⟩
          · have t1 : (f.k == 1) = false := by simp; exact k1
            have HK1 := hid k1; clear k1
            obtain ⟨F1, hF1⟩ : ∃ F1, F1 = flight f cn tick fr tt data dl := ⟨_, rfl⟩
            have o_BX_0 : W7.cell? ⟨b_BX, 0, none⟩ = some (.int .i64 (tick + 1 + dl)) := blk_cell BX.out 0
            have o_BX_1 : W7.cell? ⟨b_BX, 1, none⟩ = some (.int .i64 cn) := blk_cell BX.out 1
            have o_BX_2 : W7.cell? ⟨b_BX, 2, none⟩ = some (.int .i64 fr) := blk_cell BX.out 2
            have o_BX_3 : W7.cell? ⟨b_BX, 3, none⟩ = some (.int .i64 tt) := blk_cell BX.out 3
            have o_BX_4 : W7.cell? ⟨b_BX, 4, none⟩ = some (.slice a6 (spoilL data f).length c6) := blk_cell BX.out 4
            have o_BP_0 : W7.cell? ⟨w.heap.size, 0, none⟩ = some (.slice af m cf) := blk_cell BP.out 0
            go_wp2_with fail
            refine (refput_fl (fun b => (KA b ∧ b < w.heap.size) ∨ (w6.heap.size ≤ b ∧ b ≠ b_BX)) _ l (flight f cn tick fr tt data dl) a6 c6 _ (HL.out.mono (fun b _ h => .inl h)) (HS6.out.mono (fun b _ h => .inr h)) (by first | (rw [HLN.out]; omega) | (rw [putL_length, HLN.out]; omega))).mono ?_
            rintro e W8 ⟨a7, c7, xs7, rfl, ho7, hc7, hk⟩
            have e1 : (l).length + 1 = (m + 1) := by first | rw [HLN.out] | rw [putL_length, HLN.out]
            have e2 : (putL l (flight f cn tick fr tt data dl)).length = (m + 1) := by rw [putL_length, e1]
            rw [e1, e2] at ho7
            rw [e1]
            have HL7 : Hd (Fls (fun b => (KA b ∧ b < w.heap.size) ∨ (w6.heap.size ≤ b ∧ b ≠ b_BX)) W8 (.slice a7 (m + 1) c7) (putL l (flight f cn tick fr tt data dl))) := hid ⟨xs7, by rw [e2]; exact ho7.row.mono (fun b _ h => by have h' : W7.heap.size ≤ b := h; omega), fun i y hy => (hc7 i y hy).mono (fun _ _ h => h.1)⟩
            clear ho7 hc7 e1 e2
            clear o_BF_1 o_BX_0 o_BX_1 o_BX_2 o_BX_3 o_BX_4 o_BP_0
            have HL' : Hd (Fls (fun b => KA b ∧ b < w.heap.size) W8 (.slice af m cf) l) := hid (HL.out.keep hk (fun _ _ _ h => h))
            have HWS' : Hd (Wins (fun b => b < w.heap.size) W8 vt ws) := hid (HWS.out.keep hk (fun _ _ _ h => h))
            have HFS' : Hd (Fts (fun b => b < w.heap.size) W8 vfs fts) := hid (HFS.out.keep hk (fun _ _ _ h => h))
            have HDT' : Hd (Sl (fun b => b < w.heap.size) W8 (.slice ad dn cd) (u8s data)) := hid (HDT.out.keep hk (fun _ _ _ h => h))
            have BP' : Hd (Blk W8 w.heap.size #[.slice af m cf, .int .i64 (cn + 1)] 28) := hid (blk_keep BP.out hk (fun h => h))
            have BQ' : Hd (Blk W8 (w.heap.size + 1) #[.int .i64 fr, .int .i64 tt, .slice ad dn cd] 37) := hid (blk_keep BQ.out hk (fun h => h))
            have BR' : Hd (Blk W8 (w.heap.size + 1 + 1) #[.slice none 0 0, .int .i64 0] 28) := hid (blk_keep BR.out hk (fun h => h))
            have BW' : Hd (Blk W8 W2.heap.size #[.int .i64 x.k, .int .i64 x.a, .int .i64 x.b, .int .i64 x.f, .int .i64 x.u, .int .i64 x.r] 54) := hid (blk_keep BW.out hk (fun h => h))
            have SF' : Hd (Sl (fun b => b < w.heap.size) W8 (.slice ag f.fg.length cg) (u8s f.fg)) := hid (SF.out.keep hk (fun _ _ _ h => h))
            have BF' : Hd (Blk W8 W4.heap.size #[.int .i64 f.m, .int .i64 f.k, .int .i64 f.dl, .int .i64 f.a, .slice ag f.fg.length cg] 64) := hid (blk_keep BF.out hk (fun h => h))
            have BX' : Hd (Blk W8 b_BX #[.int .i64 (tick + 1 + dl), .int .i64 cn, .int .i64 fr, .int .i64 tt, .slice a6 (spoilL data f).length c6] 59) := hid (blk_keep BX.out hk (fun h => h))
            have HS6' : Hd (Sl (fun b => w6.heap.size ≤ b ∧ b ≠ b_BX) W8 (.slice a6 (spoilL data f).length c6) (u8s (spoilL data f))) := hid (HS6.out.keep hk (fun _ _ _ h => h))
            clear HL HWS HFS HDT BP BQ BR BW SF BF BX HS6
            have HL := HL'
            clear HL'
            have HWS := HWS'
            clear HWS'
            have HFS := HFS'
            clear HFS'
            have HDT := HDT'
            clear HDT'
            have BP := BP'
            clear BP'
            have BQ := BQ'
            clear BQ'
            have BR := BR'
            clear BR'
            have BW := BW'
            clear BW'
            have SF := SF'
            clear SF'
            have BF := BF'
            clear BF'
            have BX := BX'
            clear BX'
            have HS6 := HS6'
            clear HS6'
            have HK' : Hd (Keeps (fun _ => False) w W8) := hid (HK.out.trans hk)
            clear HK
            have HK := HK'
            clear HK'
            have z_W8 := hk.size
            clear hk
            have o_BP_0 : W8.cell? ⟨w.heap.size, 0, none⟩ = some (.slice af m cf) := blk_cell BP.out 0
            have f_BP_0 : W8.frozen? ⟨w.heap.size, 0, none⟩ = false := blk_free BP.out 0
            go_upto_region 11 with fail
            clear o_BP_0 f_BP_0
            generalize hW : World.setCell W8 _ _ = W9
            have KS : Hd (Keeps (fun b => b = w.heap.size) W8 W9) := hid (by rw [← hW]; exact (Keeps.setCell (S := fun b => b = w.heap.size) (Keeps.refl (fun b => b = w.heap.size) W8) (.inl rfl) _))
            have HL' : Hd (Fls (fun b => KA b ∧ b < w.heap.size) W9 (.slice af m cf) l) := hid (HL.out.keep KS.out (fun b _ h1 h2 => by omega))
            have HWS' : Hd (Wins (fun b => b < w.heap.size) W9 vt ws) := hid (HWS.out.keep KS.out (fun b _ h1 h2 => by omega))
            have HFS' : Hd (Fts (fun b => b < w.heap.size) W9 vfs fts) := hid (HFS.out.keep KS.out (fun b _ h1 h2 => by omega))
            have HDT' : Hd (Sl (fun b => b < w.heap.size) W9 (.slice ad dn cd) (u8s data)) := hid (HDT.out.keep KS.out (fun b _ h1 h2 => by omega))
            have BP' : Hd (Blk W9 w.heap.size #[.slice a7 (m + 1) c7, .int .i64 (cn + 1)] 28) := hid (by rw [← hW]; exact (blk_set BP.out 0 _))
            have BQ' : Hd (Blk W9 (w.heap.size + 1) #[.int .i64 fr, .int .i64 tt, .slice ad dn cd] 37) := hid (by rw [← hW]; exact (blk_other BQ.out (by omega) _ _))
            have BR' : Hd (Blk W9 (w.heap.size + 1 + 1) #[.slice none 0 0, .int .i64 0] 28) := hid (by rw [← hW]; exact (blk_other BR.out (by omega) _ _))
            have BW' : Hd (Blk W9 W2.heap.size #[.int .i64 x.k, .int .i64 x.a, .int .i64 x.b, .int .i64 x.f, .int .i64 x.u, .int .i64 x.r] 54) := hid (by rw [← hW]; exact (blk_other BW.out (by omega) _ _))
            have SF' : Hd (Sl (fun b => b < w.heap.size) W9 (.slice ag f.fg.length cg) (u8s f.fg)) := hid (SF.out.keep KS.out (fun b _ h1 h2 => by omega))
            have BF' : Hd (Blk W9 W4.heap.size #[.int .i64 f.m, .int .i64 f.k, .int .i64 f.dl, .int .i64 f.a, .slice ag f.fg.length cg] 64) := hid (by rw [← hW]; exact (blk_other BF.out (by omega) _ _))
            have BX' : Hd (Blk W9 b_BX #[.int .i64 (tick + 1 + dl), .int .i64 cn, .int .i64 fr, .int .i64 tt, .slice a6 (spoilL data f).length c6] 59) := hid (by rw [← hW]; exact (blk_other BX.out (by omega) _ _))
            have HS6' : Hd (Sl (fun b => w6.heap.size ≤ b ∧ b ≠ b_BX) W9 (.slice a6 (spoilL data f).length c6) (u8s (spoilL data f))) := hid (HS6.out.keep KS.out (fun b _ h1 h2 => by omega))
            have HL7' : Hd (Fls (fun b => (KA b ∧ b < w.heap.size) ∨ (w6.heap.size ≤ b ∧ b ≠ b_BX)) W9 (.slice a7 (m + 1) c7) (putL l (flight f cn tick fr tt data dl))) := hid (HL7.out.keep KS.out (fun b _ h1 h2 => by omega))
            clear HL HWS HFS HDT BP BQ BR BW SF BF BX HS6 HL7
            have HL := HL'
            clear HL'
            have HWS := HWS'
            clear HWS'
            have HFS := HFS'
            clear HFS'
            have HDT := HDT'
            clear HDT'
            have BP := BP'
            clear BP'
            have BQ := BQ'
            clear BQ'
            have BR := BR'
            clear BR'
            have BW := BW'
            clear BW'
            have SF := SF'
            clear SF'
            have BF := BF'
            clear BF'
            have BX := BX'
            clear BX'
            have HS6 := HS6'
            clear HS6'
            have HL7 := HL7'
            clear HL7'
            have HK' : Hd (Keeps (fun _ => False) w W9) := hid (HK.out.trans' KS.out (fun i hi h => by omega))
            clear HK
            have HK := HK'
            clear HK'
            have z_W9 : W8.heap.size + 0 ≤ W9.heap.size := by rw [← hW]; simp
            clear hW KS
            have o_BF_1 : W9.cell? ⟨W4.heap.size, 1, none⟩ = some (.int .i64 f.k) := blk_cell BF.out 1
            by_cases k2 : f.k = 2
            · have t2 : (f.k == 2) = true := by simp; exact k2
              have HE : Hd (sentL l f cn tick fr tt data (delays f) = putL (putL l (flight f cn tick fr tt data dl)) ⟨tick + 1, cn, fr, tt, spoilL data f⟩) := hid (by unfold delays; rw [if_neg HK1.out, if_pos k2, HDL0.out]; unfold sentL; simp [flight])
              clear k2
              have o_BX_0 : W9.cell? ⟨b_BX, 0, none⟩ = some (.int .i64 (tick + 1 + dl)) := blk_cell BX.out 0
              have f_BX_0 : W9.frozen? ⟨b_BX, 0, none⟩ = false := blk_free BX.out 0
              go_upto_region 13 with fail
              clear o_BF_1 o_BX_0 f_BX_0
              generalize hW : World.setCell W9 _ _ = W10
              have KS : Hd (Keeps (fun b => b = b_BX) W9 W10) := hid (by rw [← hW]; exact (Keeps.setCell (S := fun b => b = b_BX) (Keeps.refl (fun b => b = b_BX) W9) (.inl rfl) _))
              have HL' : Hd (Fls (fun b => KA b ∧ b < w.heap.size) W10 (.slice af m cf) l) := hid (HL.out.keep KS.out (fun b _ h1 h2 => by omega))
              have HWS' : Hd (Wins (fun b => b < w.heap.size) W10 vt ws) := hid (HWS.out.keep KS.out (fun b _ h1 h2 => by omega))
              have HFS' : Hd (Fts (fun b => b < w.heap.size) W10 vfs fts) := hid (HFS.out.keep KS.out (fun b _ h1 h2 => by omega))
              have HDT' : Hd (Sl (fun b => b < w.heap.size) W10 (.slice ad dn cd) (u8s data)) := hid (HDT.out.keep KS.out (fun b _ h1 h2 => by omega))
              have BP' : Hd (Blk W10 w.heap.size #[.slice a7 (m + 1) c7, .int .i64 (cn + 1)] 28) := hid (by rw [← hW]; exact (blk_other BP.out (by omega) _ _))
              have BQ' : Hd (Blk W10 (w.heap.size + 1) #[.int .i64 fr, .int .i64 tt, .slice ad dn cd] 37) := hid (by rw [← hW]; exact (blk_other BQ.out (by omega) _ _))
              have BR' : Hd (Blk W10 (w.heap.size + 1 + 1) #[.slice none 0 0, .int .i64 0] 28) := hid (by rw [← hW]; exact (blk_other BR.out (by omega) _ _))
              have BW' : Hd (Blk W10 W2.heap.size #[.int .i64 x.k, .int .i64 x.a, .int .i64 x.b, .int .i64 x.f, .int .i64 x.u, .int .i64 x.r] 54) := hid (by rw [← hW]; exact (blk_other BW.out (by omega) _ _))
              have SF' : Hd (Sl (fun b => b < w.heap.size) W10 (.slice ag f.fg.length cg) (u8s f.fg)) := hid (SF.out.keep KS.out (fun b _ h1 h2 => by omega))
              have BF' : Hd (Blk W10 W4.heap.size #[.int .i64 f.m, .int .i64 f.k, .int .i64 f.dl, .int .i64 f.a, .slice ag f.fg.length cg] 64) := hid (by rw [← hW]; exact (blk_other BF.out (by omega) _ _))
              have BX' : Hd (Blk W10 b_BX #[.int .i64 (tick + 1), .int .i64 cn, .int .i64 fr, .int .i64 tt, .slice a6 (spoilL data f).length c6] 59) := hid (by rw [← hW]; exact (blk_set BX.out 0 _))
              have HS6' : Hd (Sl (fun b => w6.heap.size ≤ b ∧ b ≠ b_BX) W10 (.slice a6 (spoilL data f).length c6) (u8s (spoilL data f))) := hid (HS6.out.keep KS.out (fun b _ h1 h2 => by omega))
              have HL7' : Hd (Fls (fun b => (KA b ∧ b < w.heap.size) ∨ (w6.heap.size ≤ b ∧ b ≠ b_BX)) W10 (.slice a7 (m + 1) c7) (putL l (flight f cn tick fr tt data dl))) := hid (HL7.out.keep KS.out (fun b _ h1 h2 => by omega))
              clear HL HWS HFS HDT BP BQ BR BW SF BF BX HS6 HL7
              have HL := HL'
              clear HL'
              have HWS := HWS'
              clear HWS'
              have HFS := HFS'
              clear HFS'
              have HDT := HDT'
              clear HDT'
              have BP := BP'
              clear BP'
              have BQ := BQ'
              clear BQ'
              have BR := BR'
              clear BR'
              have BW := BW'
              clear BW'
              have SF := SF'
              clear SF'
              have BF := BF'
              clear BF'
              have BX := BX'
              clear BX'
              have HS6 := HS6'
              clear HS6'
              have HL7 := HL7'
              clear HL7'
              have HK' : Hd (Keeps (fun _ => False) w W10) := hid (HK.out.trans' KS.out (fun i hi h => by omega))
              clear HK
              have HK := HK'
              clear HK'
              have z_W10 : W9.heap.size + 0 ≤ W10.heap.size := by rw [← hW]; simp
              clear hW KS
              have o_BX_0 : W10.cell? ⟨b_BX, 0, none⟩ = some (.int .i64 (tick + 1)) := blk_cell BX.out 0
              have o_BX_1 : W10.cell? ⟨b_BX, 1, none⟩ = some (.int .i64 cn) := blk_cell BX.out 1
              have o_BX_2 : W10.cell? ⟨b_BX, 2, none⟩ = some (.int .i64 fr) := blk_cell BX.out 2
              have o_BX_3 : W10.cell? ⟨b_BX, 3, none⟩ = some (.int .i64 tt) := blk_cell BX.out 3
              have o_BX_4 : W10.cell? ⟨b_BX, 4, none⟩ = some (.slice a6 (spoilL data f).length c6) := blk_cell BX.out 4
              have o_BP_0 : W10.cell? ⟨w.heap.size, 0, none⟩ = some (.slice a7 (m + 1) c7) := blk_cell BP.out 0
              go_wp2_with fail
              refine (refput_fl (fun b => (KA b ∧ b < w.heap.size) ∨ (w6.heap.size ≤ b ∧ b ≠ b_BX)) _ (putL l (flight f cn tick fr tt data dl)) ⟨tick + 1, cn, fr, tt, spoilL data f⟩ a6 c6 _ (HL7.out) (HS6.out.mono (fun b _ h => .inr h)) (by first | (rw [HLN.out]; omega) | (rw [putL_length, HLN.out]; omega))).mono ?_
              rintro e W11 ⟨a8, c8, xs8, rfl, ho8, hc8, hk⟩
              have e1 : ((putL l (flight f cn tick fr tt data dl))).length + 1 = (m + 1 + 1) := by first | rw [HLN.out] | rw [putL_length, HLN.out]
              have e2 : (putL (putL l (flight f cn tick fr tt data dl)) ⟨tick + 1, cn, fr, tt, spoilL data f⟩).length = (m + 1 + 1) := by rw [putL_length, e1]
              rw [e1, e2] at ho8
              rw [e1]
              have HL8 : Hd (Fls (fun b => (KA b ∧ b < w.heap.size) ∨ (w6.heap.size ≤ b ∧ b ≠ b_BX)) W11 (.slice a8 (m + 1 + 1) c8) (putL (putL l (flight f cn tick fr tt data dl)) ⟨tick + 1, cn, fr, tt, spoilL data f⟩)) := hid ⟨xs8, by rw [e2]; exact ho8.row.mono (fun b _ h => by have h' : W10.heap.size ≤ b := h; omega), fun i y hy => (hc8 i y hy).mono (fun _ _ h => h.1)⟩
              clear ho8 hc8 e1 e2
              clear o_BX_0 o_BX_1 o_BX_2 o_BX_3 o_BX_4 o_BP_0
              have HL' : Hd (Fls (fun b => KA b ∧ b < w.heap.size) W11 (.slice af m cf) l) := hid (HL.out.keep hk (fun _ _ _ h => h))
              have HWS' : Hd (Wins (fun b => b < w.heap.size) W11 vt ws) := hid (HWS.out.keep hk (fun _ _ _ h => h))
              have HFS' : Hd (Fts (fun b => b < w.heap.size) W11 vfs fts) := hid (HFS.out.keep hk (fun _ _ _ h => h))
              have HDT' : Hd (Sl (fun b => b < w.heap.size) W11 (.slice ad dn cd) (u8s data)) := hid (HDT.out.keep hk (fun _ _ _ h => h))
              have BP' : Hd (Blk W11 w.heap.size #[.slice a7 (m + 1) c7, .int .i64 (cn + 1)] 28) := hid (blk_keep BP.out hk (fun h => h))
              have BQ' : Hd (Blk W11 (w.heap.size + 1) #[.int .i64 fr, .int .i64 tt, .slice ad dn cd] 37) := hid (blk_keep BQ.out hk (fun h => h))
              have BR' : Hd (Blk W11 (w.heap.size + 1 + 1) #[.slice none 0 0, .int .i64 0] 28) := hid (blk_keep BR.out hk (fun h => h))
              have BW' : Hd (Blk W11 W2.heap.size #[.int .i64 x.k, .int .i64 x.a, .int .i64 x.b, .int .i64 x.f, .int .i64 x.u, .int .i64 x.r] 54) := hid (blk_keep BW.out hk (fun h => h))
              have SF' : Hd (Sl (fun b => b < w.heap.size) W11 (.slice ag f.fg.length cg) (u8s f.fg)) := hid (SF.out.keep hk (fun _ _ _ h => h))
              have BF' : Hd (Blk W11 W4.heap.size #[.int .i64 f.m, .int .i64 f.k, .int .i64 f.dl, .int .i64 f.a, .slice ag f.fg.length cg] 64) := hid (blk_keep BF.out hk (fun h => h))
              have BX' : Hd (Blk W11 b_BX #[.int .i64 (tick + 1), .int .i64 cn, .int .i64 fr, .int .i64 tt, .slice a6 (spoilL data f).length c6] 59) := hid (blk_keep BX.out hk (fun h => h))
              have HS6' : Hd (Sl (fun b => w6.heap.size ≤ b ∧ b ≠ b_BX) W11 (.slice a6 (spoilL data f).length c6) (u8s (spoilL data f))) := hid (HS6.out.keep hk (fun _ _ _ h => h))
              have HL7' : Hd (Fls (fun b => (KA b ∧ b < w.heap.size) ∨ (w6.heap.size ≤ b ∧ b ≠ b_BX)) W11 (.slice a7 (m + 1) c7) (putL l (flight f cn tick fr tt data dl))) := hid (HL7.out.keep hk (fun _ _ _ h => h))
              clear HL HWS HFS HDT BP BQ BR BW SF BF BX HS6 HL7
              have HL := HL'
              clear HL'
              have HWS := HWS'
              clear HWS'
              have HFS := HFS'
              clear HFS'
              have HDT := HDT'
              clear HDT'
              have BP := BP'
              clear BP'
              have BQ := BQ'
              clear BQ'
              have BR := BR'
              clear BR'
              have BW := BW'
              clear BW'
              have SF := SF'
              clear SF'
              have BF := BF'
              clear BF'
              have BX := BX'
              clear BX'
              have HS6 := HS6'
              clear HS6'
              have HL7 := HL7'
              clear HL7'
              have HK' : Hd (Keeps (fun _ => False) w W11) := hid (HK.out.trans hk)
              clear HK
              have HK := HK'
              clear HK'
              have z_W11 := hk.size
              clear hk
              have o_BP_0 : W11.cell? ⟨w.heap.size, 0, none⟩ = some (.slice a7 (m + 1) c7) := blk_cell BP.out 0
              have f_BP_0 : W11.frozen? ⟨w.heap.size, 0, none⟩ = false := blk_free BP.out 0
              go_upto_region 14 with fail
              clear o_BP_0 f_BP_0
              generalize hW : World.setCell W11 _ _ = W12
              have KS : Hd (Keeps (fun b => b = w.heap.size) W11 W12) := hid (by rw [← hW]; exact (Keeps.setCell (S := fun b => b = w.heap.size) (Keeps.refl (fun b => b = w.heap.size) W11) (.inl rfl) _))
              have HL' : Hd (Fls (fun b => KA b ∧ b < w.heap.size) W12 (.slice af m cf) l) := hid (HL.out.keep KS.out (fun b _ h1 h2 => by omega))
              have HWS' : Hd (Wins (fun b => b < w.heap.size) W12 vt ws) := hid (HWS.out.keep KS.out (fun b _ h1 h2 => by omega))
              have HFS' : Hd (Fts (fun b => b < w.heap.size) W12 vfs fts) := hid (HFS.out.keep KS.out (fun b _ h1 h2 => by omega))
              have HDT' : Hd (Sl (fun b => b < w.heap.size) W12 (.slice ad dn cd) (u8s data)) := hid (HDT.out.keep KS.out (fun b _ h1 h2 => by omega))
              have BP' : Hd (Blk W12 w.heap.size #[.slice a8 (m + 1 + 1) c8, .int .i64 (cn + 1)] 28) := hid (by rw [← hW]; exact (blk_set BP.out 0 _))
              have BQ' : Hd (Blk W12 (w.heap.size + 1) #[.int .i64 fr, .int .i64 tt, .slice ad dn cd] 37) := hid (by rw [← hW]; exact (blk_other BQ.out (by omega) _ _))
              have BR' : Hd (Blk W12 (w.heap.size + 1 + 1) #[.slice none 0 0, .int .i64 0] 28) := hid (by rw [← hW]; exact (blk_other BR.out (by omega) _ _))
              have BW' : Hd (Blk W12 W2.heap.size #[.int .i64 x.k, .int .i64 x.a, .int .i64 x.b, .int .i64 x.f, .int .i64 x.u, .int .i64 x.r] 54) := hid (by rw [← hW]; exact (blk_other BW.out (by omega) _ _))
              have SF' : Hd (Sl (fun b => b < w.heap.size) W12 (.slice ag f.fg.length cg) (u8s f.fg)) := hid (SF.out.keep KS.out (fun b _ h1 h2 => by omega))
              have BF' : Hd (Blk W12 W4.heap.size #[.int .i64 f.m, .int .i64 f.k, .int .i64 f.dl, .int .i64 f.a, .slice ag f.fg.length cg] 64) := hid (by rw [← hW]; exact (blk_other BF.out (by omega) _ _))
              have BX' : Hd (Blk W12 b_BX #[.int .i64 (tick + 1), .int .i64 cn, .int .i64 fr, .int .i64 tt, .slice a6 (spoilL data f).length c6] 59) := hid (by rw [← hW]; exact (blk_other BX.out (by omega) _ _))
              have HS6' : Hd (Sl (fun b => w6.heap.size ≤ b ∧ b ≠ b_BX) W12 (.slice a6 (spoilL data f).length c6) (u8s (spoilL data f))) := hid (HS6.out.keep KS.out (fun b _ h1 h2 => by omega))
              have HL7' : Hd (Fls (fun b => (KA b ∧ b < w.heap.size) ∨ (w6.heap.size ≤ b ∧ b ≠ b_BX)) W12 (.slice a7 (m + 1) c7) (putL l (flight f cn tick fr tt data dl))) := hid (HL7.out.keep KS.out (fun b _ h1 h2 => by omega))
              have HL8' : Hd (Fls (fun b => (KA b ∧ b < w.heap.size) ∨ (w6.heap.size ≤ b ∧ b ≠ b_BX)) W12 (.slice a8 (m + 1 + 1) c8) (putL (putL l (flight f cn tick fr tt data dl)) ⟨tick + 1, cn, fr, tt, spoilL data f⟩)) := hid (HL8.out.keep KS.out (fun b _ h1 h2 => by omega))
              clear HL HWS HFS HDT BP BQ BR BW SF BF BX HS6 HL7 HL8
              have HL := HL'
              clear HL'
              have HWS := HWS'
              clear HWS'
              have HFS := HFS'
              clear HFS'
              have HDT := HDT'
              clear HDT'
              have BP := BP'
              clear BP'
              have BQ := BQ'
              clear BQ'
              have BR := BR'
              clear BR'
              have BW := BW'
              clear BW'
              have SF := SF'
              clear SF'
              have BF := BF'
              clear BF'
              have BX := BX'
              clear BX'
              have HS6 := HS6'
              clear HS6'
              have HL7 := HL7'
              clear HL7'
              have HL8 := HL8'
              clear HL8'
              have HK' : Hd (Keeps (fun _ => False) w W12) := hid (HK.out.trans' KS.out (fun i hi h => by omega))
              clear HK
              have HK := HK'
              clear HK'
              have z_W12 : W11.heap.size + 0 ≤ W12.heap.size := by rw [← hW]; simp
              clear hW KS
              have o_BP_0 : W12.cell? ⟨w.heap.size, 0, none⟩ = some (.slice a8 (m + 1 + 1) c8) := blk_cell BP.out 0
              have o_BP_1 : W12.cell? ⟨w.heap.size, 1, none⟩ = some (.int .i64 (cn + 1)) := blk_cell BP.out 1
              have o_BR_0 : W12.cell? ⟨w.heap.size + 1 + 1, 0, none⟩ = some (.slice none 0 0) := blk_cell BR.out 0
              have o_BR_1 : W12.cell? ⟨w.heap.size + 1 + 1, 1, none⟩ = some (.int .i64 0) := blk_cell BR.out 1
              have f_BR_0 : W12.frozen? ⟨w.heap.size + 1 + 1, 0, none⟩ = false := blk_free BR.out 0
              have f_BR_1 : W12.frozen? ⟨w.heap.size + 1 + 1, 1, none⟩ = false := blk_free BR.out 1
              obtain ⟨KF, F2⟩ := fin2 HK.out (b := w.heap.size + 1 + 1) (by omega) BR.out (.slice a8 (m + 1 + 1) c8) (.int .i64 (cn + 1))
              have KS2 : Hd (Keeps (fun b => b = w.heap.size + 1 + 1) W12 _) := hid (keq (keq (Keeps.refl _ W12) 0 (.slice a8 (m + 1 + 1) c8)) 1 (.int .i64 (cn + 1)))
              have r0 := blk_cell F2 0
              have r1 := blk_cell F2 1
              have HKF := hid KF
              clear KF F2
              go_wp2
              refine bodyPost_ret (v := .tuple #[.agg #[.slice a8 (m + 1 + 1) c8, .int .i64 (cn + 1)], .bool true]) (by simp [results, Try.results15, go_sem, r0, r1]) rfl ?_
              rw [HSR.out, HE.out]
              exact ⟨a8, m + 1 + 1, c8, rfl, by rw [putL_length, putL_length, HLN.out], (HL8.out.keep KS2.out (fun b _ h1 h2 => by omega)).mono (fun _ _ h => h.imp (fun h => h.1) (fun h => by omega)), HKF.out⟩
            · have t2 : (f.k == 2) = false := by simp; exact k2
              have HE : Hd (sentL l f cn tick fr tt data (delays f) = putL l (flight f cn tick fr tt data dl)) := hid (by unfold delays; rw [if_neg HK1.out, if_neg k2, HDL0.out]; rfl)
              clear k2
              have o_BP_0 : W9.cell? ⟨w.heap.size, 0, none⟩ = some (.slice a7 (m + 1) c7) := blk_cell BP.out 0
              have o_BP_1 : W9.cell? ⟨w.heap.size, 1, none⟩ = some (.int .i64 (cn + 1)) := blk_cell BP.out 1
              have o_BR_0 : W9.cell? ⟨w.heap.size + 1 + 1, 0, none⟩ = some (.slice none 0 0) := blk_cell BR.out 0
              have o_BR_1 : W9.cell? ⟨w.heap.size + 1 + 1, 1, none⟩ = some (.int .i64 0) := blk_cell BR.out 1
              have f_BR_0 : W9.frozen? ⟨w.heap.size + 1 + 1, 0, none⟩ = false := blk_free BR.out 0
              have f_BR_1 : W9.frozen? ⟨w.heap.size + 1 + 1, 1, none⟩ = false := blk_free BR.out 1
              obtain ⟨KF, F2⟩ := fin2 HK.out (b := w.heap.size + 1 + 1) (by omega) BR.out (.slice a7 (m + 1) c7) (.int .i64 (cn + 1))
              have KS2 : Hd (Keeps (fun b => b = w.heap.size + 1 + 1) W9 _) := hid (keq (keq (Keeps.refl _ W9) 0 (.slice a7 (m + 1) c7)) 1 (.int .i64 (cn + 1)))
              have r0 := blk_cell F2 0
              have r1 := blk_cell F2 1
              have HKF := hid KF
              clear KF F2
              go_wp2
              refine bodyPost_ret (v := .tuple #[.agg #[.slice a7 (m + 1) c7, .int .i64 (cn + 1)], .bool true]) (by simp [results, Try.results15, go_sem, r0, r1]) rfl ?_
              rw [HSR.out, HE.out]
              exact ⟨a7, m + 1, c7, rfl, by rw [putL_length, HLN.out], (HL7.out.keep KS2.out (fun b _ h1 h2 => by omega)).mono (fun _ _ h => h.imp (fun h => h.1) (fun h => by omega)), HKF.out⟩
end Go.Proofs.Ytjapmpolagblaaa
