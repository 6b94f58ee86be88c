/- Link: sent. -/
import Derived.Test.YtjapmpolagblaaaLinkV
namespace Go.Proofs.Ytjapmpolagblaaa
open Go.RowKit
attribute [local go_sem ↓] Go.wp_at_zero Go.wp_at_succ
theorem sendR_cn (R : Option Win) (l : List Flt) (cn : Int) (fts : List Ft) (tick fr tt : Int) (data : List Nat) : cn ≤ (sendR R l cn fts tick fr tt data).2.1 ∧ (sendR R l cn fts tick fr tt data).2.1 ≤ cn + 1 := by
  unfold sendR
  split
  · exact ⟨Int.le_refl _, by show cn ≤ cn + 1; omega⟩
  · split
    · exact ⟨Int.le_refl _, by show cn ≤ cn + 1; omega⟩
    · exact ⟨by show cn ≤ cn + 1; omega, Int.le_refl _⟩
def SentPost (w : World) (r : Ending) (w' : World) : Prop := ∃ (l : List Flt) (cn tick : Int) (a1 : Option Addr) (c1 : Nat) (a2 : Option Addr) (c2 : Nat), r = .returned (.tuple #[.agg #[.slice a1 l.length c1, .int .i64 cn], .agg #[.slice a2 l.length c2, .int .i64 cn, .int .i64 tick], .bool true]) ∧
  Good l 24 tick ∧ (0 ≤ tick ∧ tick ≤ 100) ∧ (0 ≤ cn ∧ cn ≤ 12) ∧ Fls (fun b => w.heap.size ≤ b) w' (.slice a1 l.length c1) l ∧ Fls (fun b => w.heap.size ≤ b) w' (.slice a2 l.length c2) l ∧ Keeps (fun _ => False) w w'
set_option maxRecDepth 100000 in set_option maxHeartbeats 1000000 in
theorem sent_any (vt vfs v : Value) (ws : List Win) (fts : List Ft) (m : Nat) (w : World) (hws : Wins (fun b => b < w.heap.size) w vt ws) (hsw : SrtW ws) (hfs : Fts (fun b => b < w.heap.size) w vfs fts) (hfl : fts.length ≤ 6) (hok : ∀ x ∈ fts, x.ok) (hv : ArrS 2 (fun b => b < w.heap.size) w v m) :
    Calls Try.prog 13 #[vt, vfs, v] w fun e w' => SentPost w e w' := by
  obtain ⟨sa, cap, rfl, hcap, hcm, hel⟩ := hv
  unfold maxLen at hcm
  have HEL := hid hel; have HWS := hid hws; have HFS := hid hfs; have HOK := hid hok; have HSW := hid hsw
  clear hel hws hfs hok hsw
  go_enter Try.func13, Try.ntmps13
  go_upto_region 3 with fail
  generalize hW : World.alloc (World.alloc (World.alloc (World.alloc w _) _) _) _ = W1
  have KS : Hd (Keeps (fun _ => False) w W1) := hid (by rw [← hW]; exact (Keeps.alloc (Keeps.alloc (Keeps.alloc (Keeps.alloc (Keeps.refl (fun _ => False) w) _) _) _) _))
  have BR0 : Hd (Blk W1 w.heap.size #[.slice none 0 0, .int .i64 0] 28) := hid (by rw [← hW]; exact (blk_alloc (blk_alloc (blk_alloc (blk_new _ _ _) _) _) _))
  have BR1 : Hd (Blk W1 (w.heap.size + 1) #[.slice none 0 0, .int .i64 0, .int .i64 0] 47) := hid (by rw [← hW]; exact (blk_alloc (blk_alloc (blk_new' _ _ _ _ (by simp)) _) _))
  have BK : Hd (Blk W1 (w.heap.size + 1 + 1) #[.slice none 0 0, .int .i64 0] 28) := hid (by rw [← hW]; exact (blk_alloc (blk_new' _ _ _ _ (by simp)) _))
  have BP : Hd (Blk W1 (w.heap.size + 1 + 1 + 1) #[.slice none 0 0, .int .i64 0, .int .i64 0] 47) := hid (by rw [← hW]; exact (blk_new' _ _ _ _ (by simp)))
  have HK : Hd (Keeps (fun _ => False) w W1) := hid KS.out
  have z_W1 : w.heap.size + 4 ≤ W1.heap.size := by rw [← hW]; simp
  clear hW KS
  go_wp2_with fail
  go_loopw [11, 12] (fun t i wr => ∃ (k : Nat) (tick cn : Int) (l : List Flt) (a1 : Option Addr) (c1 : Nat) (a2 : Option Addr) (c2 : Nat), t = .int .i64 tick ∧ i = .int .i64 k ∧ k ≤ m ∧ k ≤ 12 ∧ 0 ≤ tick ∧ tick ≤ 2 * k ∧ 0 ≤ cn ∧ cn ≤ k ∧ Hd (Good l (2 * k) tick) ∧ Hd (Blk wr w.heap.size #[.slice none 0 0, .int .i64 0] 28) ∧ Hd (Blk wr (w.heap.size + 1) #[.slice none 0 0, .int .i64 0, .int .i64 0] 47) ∧ Hd (Blk wr (w.heap.size + 1 + 1) #[.slice a1 l.length c1, .int .i64 cn] 28) ∧ Hd (Blk wr (w.heap.size + 1 + 1 + 1) #[.slice a2 l.length c2, .int .i64 cn, .int .i64 tick] 47) ∧ Hd (Fls (fun b => w.heap.size + 1 + 1 + 1 < b) wr (.slice a1 l.length c1) l) ∧ Hd (Fls (fun b => w.heap.size + 1 + 1 + 1 < b) wr (.slice a2 l.length c2) l) ∧ Hd (Keeps (fun _ => False) w wr)) (fun _ i _ => m - (intOf i).toNat)
  case atStart => exact ⟨0, 0, 0, [], none, 0, none, 0, rfl, rfl, Nat.zero_le _, Nat.zero_le _, Int.le_refl _, by simp, Int.le_refl _, by simp, hid good_nil, BR0, BR1, BK, BP, hid ⟨[], ⟨rfl, .inl ⟨rfl, rfl⟩⟩, fun i x h => by simp at h⟩, hid ⟨[], ⟨rfl, .inl ⟨rfl, rfl⟩⟩, fun i x h => by simp at h⟩, HK⟩
  case round =>
    clear BR0 BR1 BK BP HK
    obtain ⟨k, tick, cn, l, a1, c1, a2, c2, rfl, rfl, hk, hk12, ht0, ht1, hc0, hc1, HG, BR0, BR1, BK, BP, F1, F2, HK⟩ := hrel
    have zr : w.heap.size + 1 + 1 + 1 < wr.heap.size := blk_lt BP.out
    by_cases hkm : k < m ∧ k < 12
    · obtain ⟨h1, h2⟩ := hkm
      obtain ⟨b, o, rfl, hb1, hb2, hc4⟩ := HEL.out k h1
      obtain ⟨z0, y0, q0, r0⟩ := hc4 0 (by omega)
      obtain ⟨z1, y1, q1, r1⟩ := hc4 1 (by omega)
      have f0 : wr.cell? ⟨b, o + k * 2, none⟩ = some (.int .i64 z0) := keep_cell HK.out (fun h => h) y0
      have f1 : wr.cell? ⟨b, o + k * 2 + 1, none⟩ = some (.int .i64 z1) := keep_cell HK.out (fun h => h) y1
      have B1 := hid q0; have B2 := hid r0; have B3 := hid q1; have B4 := hid r1
      clear y0 y1 q0 r0 q1 r1 hc4
      have k1 : (k : Int) < m := by omega
      have k2 : (0 : Int) ≤ k := by omega
      have k3 : (k : Int) < 12 := by omega
      go_wp2_with fail
      refine (Around_any z0 _ _ B1.out B2.out (by omega) (by omega)).mono ?_
      rintro e wx ⟨rfl, rfl⟩
      obtain ⟨b0, b1⟩ := around_b z0 (show (1 : Int) ≤ 3 by omega)
      generalize around z0 3 = d at *
      go_wp2_with fail
      refine (Message_any z1 _ B3.out B4.out).mono ?_
      rintro e W2 ⟨fr, tt, ad, dn, cd, data, rfl, rfl, hdl, hd8, hsl, hfr, htt, hk⟩
      have SD := hid hsl; have HD8 := hid hd8; clear hsl hd8
      have BR0' : Hd (Blk W2 w.heap.size #[.slice none 0 0, .int .i64 0] 28) := hid (blk_keep BR0.out hk (fun h => h))
      have BR1' : Hd (Blk W2 (w.heap.size + 1) #[.slice none 0 0, .int .i64 0, .int .i64 0] 47) := hid (blk_keep BR1.out hk (fun h => h))
      have BK' : Hd (Blk W2 (w.heap.size + 1 + 1) #[.slice a1 l.length c1, .int .i64 cn] 28) := hid (blk_keep BK.out hk (fun h => h))
      have BP' : Hd (Blk W2 (w.heap.size + 1 + 1 + 1) #[.slice a2 l.length c2, .int .i64 cn, .int .i64 tick] 47) := hid (blk_keep BP.out hk (fun h => h))
      have F1' : Hd (Fls (fun b => w.heap.size + 1 + 1 + 1 < b) W2 (.slice a1 l.length c1) l) := hid (F1.out.keep hk (fun _ _ _ h => h))
      have F2' : Hd (Fls (fun b => w.heap.size + 1 + 1 + 1 < b) W2 (.slice a2 l.length c2) l) := hid (F2.out.keep hk (fun _ _ _ h => h))
      clear BR0 BR1 BK BP F1 F2
      have BR0 := BR0'
      clear BR0'
      have BR1 := BR1'
      clear BR1'
      have BK := BK'
      clear BK'
      have BP := BP'
      clear BP'
      have F1 := F1'
      clear F1'
      have F2 := F2'
      clear F2'
      have HK' : Hd (Keeps (fun _ => False) w W2) := hid (HK.out.trans hk)
      clear HK
      have HK := HK'
      clear HK'
      have z_W2 := hk.size
      clear hk
      clear f0 f1
      go_upto_region 9 with fail
      generalize hW : World.alloc W2 _ = W3
      have KS : Hd (Keeps (fun _ => False) W2 W3) := hid (by rw [← hW]; exact (Keeps.alloc (Keeps.refl (fun _ => False) W2) _))
      have BR0' : Hd (Blk W3 w.heap.size #[.slice none 0 0, .int .i64 0] 28) := hid (by rw [← hW]; exact (blk_alloc BR0.out _))
      have BR1' : Hd (Blk W3 (w.heap.size + 1) #[.slice none 0 0, .int .i64 0, .int .i64 0] 47) := hid (by rw [← hW]; exact (blk_alloc BR1.out _))
      have BK' : Hd (Blk W3 (w.heap.size + 1 + 1) #[.slice a1 l.length c1, .int .i64 cn] 28) := hid (by rw [← hW]; exact (blk_alloc BK.out _))
      have BP' : Hd (Blk W3 (w.heap.size + 1 + 1 + 1) #[.slice a2 l.length c2, .int .i64 cn, .int .i64 tick] 47) := hid (by rw [← hW]; exact (blk_alloc BP.out _))
      have F1' : Hd (Fls (fun b => w.heap.size + 1 + 1 + 1 < b) W3 (.slice a1 l.length c1) l) := hid (F1.out.keep KS.out (fun _ _ _ h => h))
      have F2' : Hd (Fls (fun b => w.heap.size + 1 + 1 + 1 < b) W3 (.slice a2 l.length c2) l) := hid (F2.out.keep KS.out (fun _ _ _ h => h))
      have SD' : Hd (Sl (fun b => wr.heap.size ≤ b) W3 (.slice ad data.length cd) (u8s data)) := hid (SD.out.keep KS.out (fun _ _ _ h => h))
      have BM : Hd (Blk W3 W2.heap.size #[.int .i64 fr, .int .i64 tt, .slice ad data.length cd] 37) := hid (by rw [← hW]; exact (blk_new _ _ _))
      clear BR0 BR1 BK BP F1 F2 SD
      have BR0 := BR0'
      clear BR0'
      have BR1 := BR1'
      clear BR1'
      have BK := BK'
      clear BK'
      have BP := BP'
      clear BP'
      have F1 := F1'
      clear F1'
      have F2 := F2'
      clear F2'
      have SD := SD'
      clear SD'
      have HK' : Hd (Keeps (fun _ => False) w W3) := hid (HK.out.trans KS.out)
      clear HK
      have HK := HK'
      clear HK'
      have z_W3 : W2.heap.size + 1 ≤ W3.heap.size := by rw [← hW]; simp
      clear hW KS
      obtain ⟨T, hT⟩ : ∃ T, tick + d = T := ⟨_, rfl⟩
      rw [hT]
      have hT0 : tick ≤ T ∧ T ≤ tick + 2 := by omega
      have HTE := hid hT; clear hT
      have HGR : Hd (Good (sendL l cn ws fts T fr tt data).1 (2 * k + 2) T) := hid (good_send HG.out (by omega) hT0.1 (by omega) HD8.out (fun x hx => HOK.out x hx))
      have hcn := sendR_cn (winW ws fr tt T) l cn fts T fr tt data
      have HREF : Hd (sendR (refW ws fr tt T) l cn fts T fr tt data = sendL l cn ws fts T fr tt data) := hid (by rw [refW_eq HSW.out]; rfl)
      have hcn2 : cn ≤ (sendL l cn ws fts T fr tt data).2.1 ∧ (sendL l cn ws fts T fr tt data).2.1 ≤ cn + 1 := hcn
      clear hcn
      generalize hR : sendL l cn ws fts T fr tt data = R at *
      have HR := hid hR; clear hR
      have HTD := hid (fun x (hx : x ∈ l) => HG.out.d x hx)
      have hll : l.length ≤ 24 := by have := HG.out.len; omega
      have o_BK_0 : W3.cell? ⟨w.heap.size + 1 + 1, 0, none⟩ = some (.slice a1 l.length c1) := blk_cell BK.out 0
      have o_BK_1 : W3.cell? ⟨w.heap.size + 1 + 1, 1, none⟩ = some (.int .i64 cn) := blk_cell BK.out 1
      have o_BM_0 : W3.cell? ⟨W2.heap.size, 0, none⟩ = some (.int .i64 fr) := blk_cell BM.out 0
      have o_BM_1 : W3.cell? ⟨W2.heap.size, 1, none⟩ = some (.int .i64 tt) := blk_cell BM.out 1
      have o_BM_2 : W3.cell? ⟨W2.heap.size, 2, none⟩ = some (.slice ad data.length cd) := blk_cell BM.out 2
      go_wp2_with fail
      refine (Send_any _ _ _ l ws fts cn T fr tt ad cd data W3 (F1.out.mono (fun b h _ => h)) ((HWS.out.keep HK.out (fun _ _ _ h => h)).mono (fun b h _ => h)) ((HFS.out.keep HK.out (fun _ _ _ h => h)).mono (fun b h _ => h)) (SD.out.mono (fun b h _ => h)) HD8.out (by omega) (fun x hx => by have := (HTD.out x hx).1; omega) (by omega) (fun x hx => by have := (HOK.out x hx).1; omega) (by omega) (by omega) (by omega) (by omega) (by omega)).mono ?_
      rw [HR.out]
      rintro e W4 ⟨a3, n3, c3, rfl, rfl, ho3, hk⟩
      have F3 := hid (FlO.fls ho3); clear ho3
      clear o_BK_0 o_BK_1 o_BM_0 o_BM_1 o_BM_2
      have BR0' : Hd (Blk W4 w.heap.size #[.slice none 0 0, .int .i64 0] 28) := hid (blk_keep BR0.out hk (fun h => h))
      have BR1' : Hd (Blk W4 (w.heap.size + 1) #[.slice none 0 0, .int .i64 0, .int .i64 0] 47) := hid (blk_keep BR1.out hk (fun h => h))
      have BK' : Hd (Blk W4 (w.heap.size + 1 + 1) #[.slice a1 l.length c1, .int .i64 cn] 28) := hid (blk_keep BK.out hk (fun h => h))
      have BP' : Hd (Blk W4 (w.heap.size + 1 + 1 + 1) #[.slice a2 l.length c2, .int .i64 cn, .int .i64 tick] 47) := hid (blk_keep BP.out hk (fun h => h))
      have F1' : Hd (Fls (fun b => w.heap.size + 1 + 1 + 1 < b) W4 (.slice a1 l.length c1) l) := hid (F1.out.keep hk (fun _ _ _ h => h))
      have F2' : Hd (Fls (fun b => w.heap.size + 1 + 1 + 1 < b) W4 (.slice a2 l.length c2) l) := hid (F2.out.keep hk (fun _ _ _ h => h))
      have SD' : Hd (Sl (fun b => wr.heap.size ≤ b) W4 (.slice ad data.length cd) (u8s data)) := hid (SD.out.keep hk (fun _ _ _ h => h))
      have BM' : Hd (Blk W4 W2.heap.size #[.int .i64 fr, .int .i64 tt, .slice ad data.length cd] 37) := hid (blk_keep BM.out hk (fun h => h))
      clear BR0 BR1 BK BP F1 F2 SD BM
      have BR0 := BR0'
      clear BR0'
      have BR1 := BR1'
      clear BR1'
      have BK := BK'
      clear BK'
      have BP := BP'
      clear BP'
      have F1 := F1'
      clear F1'
      have F2 := F2'
      clear F2'
      have SD := SD'
      clear SD'
      have BM := BM'
      clear BM'
      have HK' : Hd (Keeps (fun _ => False) w W4) := hid (HK.out.trans hk)
      clear HK
      have HK := HK'
      clear HK'
      have z_W4 := hk.size
      clear hk
      go_upto_region 10 with fail
      generalize hW : World.alloc W4 _ = W5
      have KS : Hd (Keeps (fun _ => False) W4 W5) := hid (by rw [← hW]; exact (Keeps.alloc (Keeps.refl (fun _ => False) W4) _))
      have BR0' : Hd (Blk W5 w.heap.size #[.slice none 0 0, .int .i64 0] 28) := hid (by rw [← hW]; exact (blk_alloc BR0.out _))
      have BR1' : Hd (Blk W5 (w.heap.size + 1) #[.slice none 0 0, .int .i64 0, .int .i64 0] 47) := hid (by rw [← hW]; exact (blk_alloc BR1.out _))
      have BK' : Hd (Blk W5 (w.heap.size + 1 + 1) #[.slice a1 l.length c1, .int .i64 cn] 28) := hid (by rw [← hW]; exact (blk_alloc BK.out _))
      have BP' : Hd (Blk W5 (w.heap.size + 1 + 1 + 1) #[.slice a2 l.length c2, .int .i64 cn, .int .i64 tick] 47) := hid (by rw [← hW]; exact (blk_alloc BP.out _))
      have F1' : Hd (Fls (fun b => w.heap.size + 1 + 1 + 1 < b) W5 (.slice a1 l.length c1) l) := hid (F1.out.keep KS.out (fun _ _ _ h => h))
      have F2' : Hd (Fls (fun b => w.heap.size + 1 + 1 + 1 < b) W5 (.slice a2 l.length c2) l) := hid (F2.out.keep KS.out (fun _ _ _ h => h))
      have SD' : Hd (Sl (fun b => wr.heap.size ≤ b) W5 (.slice ad data.length cd) (u8s data)) := hid (SD.out.keep KS.out (fun _ _ _ h => h))
      have BM' : Hd (Blk W5 W2.heap.size #[.int .i64 fr, .int .i64 tt, .slice ad data.length cd] 37) := hid (by rw [← hW]; exact (blk_alloc BM.out _))
      have F3' : Hd (Fls (fun b => W3.heap.size ≤ b) W5 (.slice a3 R.1.length c3) R.1) := hid (F3.out.keep KS.out (fun _ _ _ h => h))
      have BN : Hd (Blk W5 W4.heap.size #[.slice a3 R.1.length c3, .int .i64 R.2.1] 28) := hid (by rw [← hW]; exact (blk_new _ _ _))
      clear BR0 BR1 BK BP F1 F2 SD BM F3
      have BR0 := BR0'
      clear BR0'
      have BR1 := BR1'
      clear BR1'
      have BK := BK'
      clear BK'
      have BP := BP'
      clear BP'
      have F1 := F1'
      clear F1'
      have F2 := F2'
      clear F2'
      have SD := SD'
      clear SD'
      have BM := BM'
      clear BM'
      have F3 := F3'
      clear F3'
      have HK' : Hd (Keeps (fun _ => False) w W5) := hid (HK.out.trans KS.out)
      clear HK
      have HK := HK'
      clear HK'
      have z_W5 : W4.heap.size + 1 ≤ W5.heap.size := by rw [← hW]; simp
      clear hW KS
      have o_BP_0 : W5.cell? ⟨w.heap.size + 1 + 1 + 1, 0, none⟩ = some (.slice a2 l.length c2) := blk_cell BP.out 0
      have o_BP_1 : W5.cell? ⟨w.heap.size + 1 + 1 + 1, 1, none⟩ = some (.int .i64 cn) := blk_cell BP.out 1
      have o_BM_0 : W5.cell? ⟨W2.heap.size, 0, none⟩ = some (.int .i64 fr) := blk_cell BM.out 0
      have o_BM_1 : W5.cell? ⟨W2.heap.size, 1, none⟩ = some (.int .i64 tt) := blk_cell BM.out 1
      have o_BM_2 : W5.cell? ⟨W2.heap.size, 2, none⟩ = some (.slice ad data.length cd) := blk_cell BM.out 2
      go_wp2_with fail
      refine (refSend_any (fun b => w.heap.size + 1 + 1 + 1 < b) _ _ _ l ws fts cn T fr tt ad cd data W5 (F2.out.mono (fun b h hh => ⟨hh, h⟩)) ((HWS.out.keep HK.out (fun _ _ _ h => h)).mono (fun b h _ => h)) ((HFS.out.keep HK.out (fun _ _ _ h => h)).mono (fun b h _ => h)) (SD.out.mono (fun b h _ => h)) HD8.out (by omega) (by omega) (fun x hx => by have := (HOK.out x hx).1; omega) (by omega) (by omega) (by omega) (by omega) (by omega)).mono ?_
      rw [HREF.out]
      rintro e W6 ⟨a4, n4, c4, rfl, rfl, hf4, hk⟩
      have F4 := hid (hf4.mono (K' := fun b => w.heap.size + 1 + 1 + 1 < b) (fun b _ h => by rcases h with h | h <;> omega)); clear hf4
      clear o_BP_0 o_BP_1 o_BM_0 o_BM_1 o_BM_2
      have BR0' : Hd (Blk W6 w.heap.size #[.slice none 0 0, .int .i64 0] 28) := hid (blk_keep BR0.out hk (fun h => h))
      have BR1' : Hd (Blk W6 (w.heap.size + 1) #[.slice none 0 0, .int .i64 0, .int .i64 0] 47) := hid (blk_keep BR1.out hk (fun h => h))
      have BK' : Hd (Blk W6 (w.heap.size + 1 + 1) #[.slice a1 l.length c1, .int .i64 cn] 28) := hid (blk_keep BK.out hk (fun h => h))
      have BP' : Hd (Blk W6 (w.heap.size + 1 + 1 + 1) #[.slice a2 l.length c2, .int .i64 cn, .int .i64 tick] 47) := hid (blk_keep BP.out hk (fun h => h))
      have F1' : Hd (Fls (fun b => w.heap.size + 1 + 1 + 1 < b) W6 (.slice a1 l.length c1) l) := hid (F1.out.keep hk (fun _ _ _ h => h))
      have F2' : Hd (Fls (fun b => w.heap.size + 1 + 1 + 1 < b) W6 (.slice a2 l.length c2) l) := hid (F2.out.keep hk (fun _ _ _ h => h))
      have SD' : Hd (Sl (fun b => wr.heap.size ≤ b) W6 (.slice ad data.length cd) (u8s data)) := hid (SD.out.keep hk (fun _ _ _ h => h))
      have BM' : Hd (Blk W6 W2.heap.size #[.int .i64 fr, .int .i64 tt, .slice ad data.length cd] 37) := hid (blk_keep BM.out hk (fun h => h))
      have F3' : Hd (Fls (fun b => W3.heap.size ≤ b) W6 (.slice a3 R.1.length c3) R.1) := hid (F3.out.keep hk (fun _ _ _ h => h))
      have BN' : Hd (Blk W6 W4.heap.size #[.slice a3 R.1.length c3, .int .i64 R.2.1] 28) := hid (blk_keep BN.out hk (fun h => h))
      clear BR0 BR1 BK BP F1 F2 SD BM F3 BN
      have BR0 := BR0'
      clear BR0'
      have BR1 := BR1'
      clear BR1'
      have BK := BK'
      clear BK'
      have BP := BP'
      clear BP'
      have F1 := F1'
      clear F1'
      have F2 := F2'
      clear F2'
      have SD := SD'
      clear SD'
      have BM := BM'
      clear BM'
      have F3 := F3'
      clear F3'
      have BN := BN'
      clear BN'
      have HK' : Hd (Keeps (fun _ => False) w W6) := hid (HK.out.trans hk)
      clear HK
      have HK := HK'
      clear HK'
      have z_W6 := hk.size
      clear hk
      go_upto_region 11 with fail
      generalize hW : World.alloc W6 _ = W7
      have KS : Hd (Keeps (fun _ => False) W6 W7) := hid (by rw [← hW]; exact (Keeps.alloc (Keeps.refl (fun _ => False) W6) _))
      have BR0' : Hd (Blk W7 w.heap.size #[.slice none 0 0, .int .i64 0] 28) := hid (by rw [← hW]; exact (blk_alloc BR0.out _))
      have BR1' : Hd (Blk W7 (w.heap.size + 1) #[.slice none 0 0, .int .i64 0, .int .i64 0] 47) := hid (by rw [← hW]; exact (blk_alloc BR1.out _))
      have BK' : Hd (Blk W7 (w.heap.size + 1 + 1) #[.slice a1 l.length c1, .int .i64 cn] 28) := hid (by rw [← hW]; exact (blk_alloc BK.out _))
      have BP' : Hd (Blk W7 (w.heap.size + 1 + 1 + 1) #[.slice a2 l.length c2, .int .i64 cn, .int .i64 tick] 47) := hid (by rw [← hW]; exact (blk_alloc BP.out _))
      have F1' : Hd (Fls (fun b => w.heap.size + 1 + 1 + 1 < b) W7 (.slice a1 l.length c1) l) := hid (F1.out.keep KS.out (fun _ _ _ h => h))
      have F2' : Hd (Fls (fun b => w.heap.size + 1 + 1 + 1 < b) W7 (.slice a2 l.length c2) l) := hid (F2.out.keep KS.out (fun _ _ _ h => h))
      have SD' : Hd (Sl (fun b => wr.heap.size ≤ b) W7 (.slice ad data.length cd) (u8s data)) := hid (SD.out.keep KS.out (fun _ _ _ h => h))
      have BM' : Hd (Blk W7 W2.heap.size #[.int .i64 fr, .int .i64 tt, .slice ad data.length cd] 37) := hid (by rw [← hW]; exact (blk_alloc BM.out _))
      have F3' : Hd (Fls (fun b => W3.heap.size ≤ b) W7 (.slice a3 R.1.length c3) R.1) := hid (F3.out.keep KS.out (fun _ _ _ h => h))
      have BN' : Hd (Blk W7 W4.heap.size #[.slice a3 R.1.length c3, .int .i64 R.2.1] 28) := hid (by rw [← hW]; exact (blk_alloc BN.out _))
      have F4' : Hd (Fls (fun b => w.heap.size + 1 + 1 + 1 < b) W7 (.slice a4 R.1.length c4) R.1) := hid (F4.out.keep KS.out (fun _ _ _ h => h))
      have BO : Hd (Blk W7 W6.heap.size #[.slice a4 R.1.length c4, .int .i64 R.2.1] 28) := hid (by rw [← hW]; exact (blk_new _ _ _))
      clear BR0 BR1 BK BP F1 F2 SD BM F3 BN F4
      have BR0 := BR0'
      clear BR0'
      have BR1 := BR1'
      clear BR1'
      have BK := BK'
      clear BK'
      have BP := BP'
      clear BP'
      have F1 := F1'
      clear F1'
      have F2 := F2'
      clear F2'
      have SD := SD'
      clear SD'
      have BM := BM'
      clear BM'
      have F3 := F3'
      clear F3'
      have BN := BN'
      clear BN'
      have F4 := F4'
      clear F4'
      have HK' : Hd (Keeps (fun _ => False) w W7) := hid (HK.out.trans KS.out)
      clear HK
      have HK := HK'
      clear HK'
      have z_W7 : W6.heap.size + 1 ≤ W7.heap.size := by rw [← hW]; simp
      clear hW KS
      have o_BN_0 : W7.cell? ⟨W4.heap.size, 0, none⟩ = some (.slice a3 R.1.length c3) := blk_cell BN.out 0
      have o_BN_1 : W7.cell? ⟨W4.heap.size, 1, none⟩ = some (.int .i64 R.2.1) := blk_cell BN.out 1
      have o_BO_0 : W7.cell? ⟨W6.heap.size, 0, none⟩ = some (.slice a4 R.1.length c4) := blk_cell BO.out 0
      have o_BO_1 : W7.cell? ⟨W6.heap.size, 1, none⟩ = some (.int .i64 R.2.1) := blk_cell BO.out 1
      have hrl : R.1.length ≤ 26 := by have := HGR.out.len; omega
      generalize hb : R.2.2 = bb at *
      have qb : (bb != bb) = false := by simp
      go_wp2_with fail
      refine (Same_any _ _ _ _ R.1 R.2.1 _ F3.out F4.out (by omega) (fun x hx => (HGR.out.d x hx).2)).mono ?_
      rintro e W8 ⟨rfl, hk⟩
      clear o_BN_0 o_BN_1 o_BO_0 o_BO_1
      have BR0' : Hd (Blk W8 w.heap.size #[.slice none 0 0, .int .i64 0] 28) := hid (blk_keep BR0.out hk (fun h => h))
      have BR1' : Hd (Blk W8 (w.heap.size + 1) #[.slice none 0 0, .int .i64 0, .int .i64 0] 47) := hid (blk_keep BR1.out hk (fun h => h))
      have BK' : Hd (Blk W8 (w.heap.size + 1 + 1) #[.slice a1 l.length c1, .int .i64 cn] 28) := hid (blk_keep BK.out hk (fun h => h))
      have BP' : Hd (Blk W8 (w.heap.size + 1 + 1 + 1) #[.slice a2 l.length c2, .int .i64 cn, .int .i64 tick] 47) := hid (blk_keep BP.out hk (fun h => h))
      have F1' : Hd (Fls (fun b => w.heap.size + 1 + 1 + 1 < b) W8 (.slice a1 l.length c1) l) := hid (F1.out.keep hk (fun _ _ _ h => h))
      have F2' : Hd (Fls (fun b => w.heap.size + 1 + 1 + 1 < b) W8 (.slice a2 l.length c2) l) := hid (F2.out.keep hk (fun _ _ _ h => h))
      have SD' : Hd (Sl (fun b => wr.heap.size ≤ b) W8 (.slice ad data.length cd) (u8s data)) := hid (SD.out.keep hk (fun _ _ _ h => h))
      have BM' : Hd (Blk W8 W2.heap.size #[.int .i64 fr, .int .i64 tt, .slice ad data.length cd] 37) := hid (blk_keep BM.out hk (fun h => h))
      have F3' : Hd (Fls (fun b => W3.heap.size ≤ b) W8 (.slice a3 R.1.length c3) R.1) := hid (F3.out.keep hk (fun _ _ _ h => h))
      have BN' : Hd (Blk W8 W4.heap.size #[.slice a3 R.1.length c3, .int .i64 R.2.1] 28) := hid (blk_keep BN.out hk (fun h => h))
      have F4' : Hd (Fls (fun b => w.heap.size + 1 + 1 + 1 < b) W8 (.slice a4 R.1.length c4) R.1) := hid (F4.out.keep hk (fun _ _ _ h => h))
      have BO' : Hd (Blk W8 W6.heap.size #[.slice a4 R.1.length c4, .int .i64 R.2.1] 28) := hid (blk_keep BO.out hk (fun h => h))
      clear BR0 BR1 BK BP F1 F2 SD BM F3 BN F4 BO
      have BR0 := BR0'
      clear BR0'
      have BR1 := BR1'
      clear BR1'
      have BK := BK'
      clear BK'
      have BP := BP'
      clear BP'
      have F1 := F1'
      clear F1'
      have F2 := F2'
      clear F2'
      have SD := SD'
      clear SD'
      have BM := BM'
      clear BM'
      have F3 := F3'
      clear F3'
      have BN := BN'
      clear BN'
      have F4 := F4'
      clear F4'
      have BO := BO'
      clear BO'
      have HK' : Hd (Keeps (fun _ => False) w W8) := hid (HK.out.trans hk)
      clear HK
      have HK := HK'
      clear HK'
      have z_W8 := hk.size
      clear hk
      clear F1 F2 SD
      have o_BK_0 : W8.cell? ⟨w.heap.size + 1 + 1, 0, none⟩ = some (.slice a1 l.length c1) := blk_cell BK.out 0
      have o_BK_1 : W8.cell? ⟨w.heap.size + 1 + 1, 1, none⟩ = some (.int .i64 cn) := blk_cell BK.out 1
      have o_BP_0 : W8.cell? ⟨w.heap.size + 1 + 1 + 1, 0, none⟩ = some (.slice a2 l.length c2) := blk_cell BP.out 0
      have o_BP_1 : W8.cell? ⟨w.heap.size + 1 + 1 + 1, 1, none⟩ = some (.int .i64 cn) := blk_cell BP.out 1
      have o_BP_2 : W8.cell? ⟨w.heap.size + 1 + 1 + 1, 2, none⟩ = some (.int .i64 tick) := blk_cell BP.out 2
      have f_BK_0 : W8.frozen? ⟨w.heap.size + 1 + 1, 0, none⟩ = false := blk_free BK.out 0
      have f_BK_1 : W8.frozen? ⟨w.heap.size + 1 + 1, 1, none⟩ = false := blk_free BK.out 1
      have f_BP_0 : W8.frozen? ⟨w.heap.size + 1 + 1 + 1, 0, none⟩ = false := blk_free BP.out 0
      have f_BP_1 : W8.frozen? ⟨w.heap.size + 1 + 1 + 1, 1, none⟩ = false := blk_free BP.out 1
      have f_BP_2 : W8.frozen? ⟨w.heap.size + 1 + 1 + 1, 2, none⟩ = false := blk_free BP.out 2
      have o_BN_0 : W8.cell? ⟨W4.heap.size, 0, none⟩ = some (.slice a3 R.1.length c3) := blk_cell BN.out 0
      have o_BN_1 : W8.cell? ⟨W4.heap.size, 1, none⟩ = some (.int .i64 R.2.1) := blk_cell BN.out 1
      have o_BO_0 : W8.cell? ⟨W6.heap.size, 0, none⟩ = some (.slice a4 R.1.length c4) := blk_cell BO.out 0
      have o_BO_1 : W8.cell? ⟨W6.heap.size, 1, none⟩ = some (.int .i64 R.2.1) := blk_cell BO.out 1
      go_upto_region 14 with fail
      clear o_BK_0 o_BK_1 o_BP_0 o_BP_1 o_BP_2 f_BK_0 f_BK_1 f_BP_0 f_BP_1 f_BP_2 o_BN_0 o_BN_1 o_BO_0 o_BO_1
      generalize hW : World.setCell (World.setCell W8 _ _) _ _ = W9
      have KS : Hd (Keeps (fun b => b = w.heap.size + 1 + 1) W8 W9) := hid (by rw [← hW]; exact (Keeps.setCell (S := fun b => b = w.heap.size + 1 + 1) (Keeps.setCell (S := fun b => b = w.heap.size + 1 + 1) (Keeps.refl (fun b => b = w.heap.size + 1 + 1) W8) (.inl rfl) _) (.inl rfl) _))
      have BR0' : Hd (Blk W9 w.heap.size #[.slice none 0 0, .int .i64 0] 28) := hid (by rw [← hW]; exact (blk_other (blk_other BR0.out (by omega) _ _) (by omega) _ _))
      have BR1' : Hd (Blk W9 (w.heap.size + 1) #[.slice none 0 0, .int .i64 0, .int .i64 0] 47) := hid (by rw [← hW]; exact (blk_other (blk_other BR1.out (by omega) _ _) (by omega) _ _))
      have BK' : Hd (Blk W9 (w.heap.size + 1 + 1) #[.slice a3 R.1.length c3, .int .i64 R.2.1] 28) := hid (by rw [← hW]; exact (blk_set (blk_set BK.out 0 _) 1 _))
      have BP' : Hd (Blk W9 (w.heap.size + 1 + 1 + 1) #[.slice a2 l.length c2, .int .i64 cn, .int .i64 tick] 47) := hid (by rw [← hW]; exact (blk_other (blk_other BP.out (by omega) _ _) (by omega) _ _))
      have BM' : Hd (Blk W9 W2.heap.size #[.int .i64 fr, .int .i64 tt, .slice ad data.length cd] 37) := hid (by rw [← hW]; exact (blk_other (blk_other BM.out (by omega) _ _) (by omega) _ _))
      have F3' : Hd (Fls (fun b => W3.heap.size ≤ b) W9 (.slice a3 R.1.length c3) R.1) := hid (F3.out.keep KS.out (fun b _ h1 h2 => by omega))
      have BN' : Hd (Blk W9 W4.heap.size #[.slice a3 R.1.length c3, .int .i64 R.2.1] 28) := hid (by rw [← hW]; exact (blk_other (blk_other BN.out (by omega) _ _) (by omega) _ _))
      have F4' : Hd (Fls (fun b => w.heap.size + 1 + 1 + 1 < b) W9 (.slice a4 R.1.length c4) R.1) := hid (F4.out.keep KS.out (fun b _ h1 h2 => by omega))
      have BO' : Hd (Blk W9 W6.heap.size #[.slice a4 R.1.length c4, .int .i64 R.2.1] 28) := hid (by rw [← hW]; exact (blk_other (blk_other BO.out (by omega) _ _) (by omega) _ _))
      clear BR0 BR1 BK BP BM F3 BN F4 BO
      have BR0 := BR0'
      clear BR0'
      have BR1 := BR1'
      clear BR1'
      have BK := BK'
      clear BK'
      have BP := BP'
      clear BP'
      have BM := BM'
      clear BM'
      have F3 := F3'
      clear F3'
      have BN := BN'
      clear BN'
      have F4 := F4'
      clear F4'
      have BO := BO'
      clear BO'
      have HK' : Hd (Keeps (fun _ => False) w W9) := hid (HK.out.trans' KS.out (fun i hi h => by omega))
      clear HK
      have HK := HK'
      clear HK'
      have z_W9 : W8.heap.size + 0 ≤ W9.heap.size := by rw [← hW]; simp
      clear hW KS
      have o_BP_0 : W9.cell? ⟨w.heap.size + 1 + 1 + 1, 0, none⟩ = some (.slice a2 l.length c2) := blk_cell BP.out 0
      have o_BP_1 : W9.cell? ⟨w.heap.size + 1 + 1 + 1, 1, none⟩ = some (.int .i64 cn) := blk_cell BP.out 1
      have o_BP_2 : W9.cell? ⟨w.heap.size + 1 + 1 + 1, 2, none⟩ = some (.int .i64 tick) := blk_cell BP.out 2
      have f_BP_0 : W9.frozen? ⟨w.heap.size + 1 + 1 + 1, 0, none⟩ = false := blk_free BP.out 0
      have f_BP_1 : W9.frozen? ⟨w.heap.size + 1 + 1 + 1, 1, none⟩ = false := blk_free BP.out 1
      have f_BP_2 : W9.frozen? ⟨w.heap.size + 1 + 1 + 1, 2, none⟩ = false := blk_free BP.out 2
      have o_BO_0 : W9.cell? ⟨W6.heap.size, 0, none⟩ = some (.slice a4 R.1.length c4) := blk_cell BO.out 0
      have o_BO_1 : W9.cell? ⟨W6.heap.size, 1, none⟩ = some (.int .i64 R.2.1) := blk_cell BO.out 1
      go_upto_region 15 with fail
      clear o_BP_0 o_BP_1 o_BP_2 f_BP_0 f_BP_1 f_BP_2 o_BO_0 o_BO_1
      generalize hW : World.setCell (World.setCell W9 _ _) _ _ = W10
      have KS : Hd (Keeps (fun b => b = w.heap.size + 1 + 1 + 1) W9 W10) := hid (by rw [← hW]; exact (Keeps.setCell (S := fun b => b = w.heap.size + 1 + 1 + 1) (Keeps.setCell (S := fun b => b = w.heap.size + 1 + 1 + 1) (Keeps.refl (fun b => b = w.heap.size + 1 + 1 + 1) W9) (.inl rfl) _) (.inl rfl) _))
      have BR0' : Hd (Blk W10 w.heap.size #[.slice none 0 0, .int .i64 0] 28) := hid (by rw [← hW]; exact (blk_other (blk_other BR0.out (by omega) _ _) (by omega) _ _))
      have BR1' : Hd (Blk W10 (w.heap.size + 1) #[.slice none 0 0, .int .i64 0, .int .i64 0] 47) := hid (by rw [← hW]; exact (blk_other (blk_other BR1.out (by omega) _ _) (by omega) _ _))
      have BK' : Hd (Blk W10 (w.heap.size + 1 + 1) #[.slice a3 R.1.length c3, .int .i64 R.2.1] 28) := hid (by rw [← hW]; exact (blk_other (blk_other BK.out (by omega) _ _) (by omega) _ _))
      have BP' : Hd (Blk W10 (w.heap.size + 1 + 1 + 1) #[.slice a4 R.1.length c4, .int .i64 R.2.1, .int .i64 tick] 47) := hid (by rw [← hW]; exact (blk_set (blk_set BP.out 0 _) 1 _))
      have BM' : Hd (Blk W10 W2.heap.size #[.int .i64 fr, .int .i64 tt, .slice ad data.length cd] 37) := hid (by rw [← hW]; exact (blk_other (blk_other BM.out (by omega) _ _) (by omega) _ _))
      have F3' : Hd (Fls (fun b => W3.heap.size ≤ b) W10 (.slice a3 R.1.length c3) R.1) := hid (F3.out.keep KS.out (fun b _ h1 h2 => by omega))
      have BN' : Hd (Blk W10 W4.heap.size #[.slice a3 R.1.length c3, .int .i64 R.2.1] 28) := hid (by rw [← hW]; exact (blk_other (blk_other BN.out (by omega) _ _) (by omega) _ _))
      have F4' : Hd (Fls (fun b => w.heap.size + 1 + 1 + 1 < b) W10 (.slice a4 R.1.length c4) R.1) := hid (F4.out.keep KS.out (fun b _ h1 h2 => by omega))
      have BO' : Hd (Blk W10 W6.heap.size #[.slice a4 R.1.length c4, .int .i64 R.2.1] 28) := hid (by rw [← hW]; exact (blk_other (blk_other BO.out (by omega) _ _) (by omega) _ _))
      clear BR0 BR1 BK BP BM F3 BN F4 BO
      have BR0 := BR0'
      clear BR0'
      have BR1 := BR1'
      clear BR1'
      have BK := BK'
      clear BK'
      have BP := BP'
      clear BP'
      have BM := BM'
      clear BM'
      have F3 := F3'
      clear F3'
      have BN := BN'
      clear BN'
      have F4 := F4'
      clear F4'
      have BO := BO'
      clear BO'
      have HK' : Hd (Keeps (fun _ => False) w W10) := hid (HK.out.trans' KS.out (fun i hi h => by omega))
      clear HK
      have HK := HK'
      clear HK'
      have z_W10 : W9.heap.size + 0 ≤ W10.heap.size := by rw [← hW]; simp
      clear hW KS
      have o_BP_0 : W10.cell? ⟨w.heap.size + 1 + 1 + 1, 0, none⟩ = some (.slice a4 R.1.length c4) := blk_cell BP.out 0
      have o_BP_1 : W10.cell? ⟨w.heap.size + 1 + 1 + 1, 1, none⟩ = some (.int .i64 R.2.1) := blk_cell BP.out 1
      have o_BP_2 : W10.cell? ⟨w.heap.size + 1 + 1 + 1, 2, none⟩ = some (.int .i64 tick) := blk_cell BP.out 2
      have f_BP_0 : W10.frozen? ⟨w.heap.size + 1 + 1 + 1, 0, none⟩ = false := blk_free BP.out 0
      have f_BP_1 : W10.frozen? ⟨w.heap.size + 1 + 1 + 1, 1, none⟩ = false := blk_free BP.out 1
      have f_BP_2 : W10.frozen? ⟨w.heap.size + 1 + 1 + 1, 2, none⟩ = false := blk_free BP.out 2
      have BP2 := hid (blk_set BP.out 2 (.int .i64 T))
      have BPX : Hd (Blk (W10.setCell ⟨w.heap.size + 1 + 1 + 1, 2, none⟩ (.int .i64 T)) (w.heap.size + 1 + 1 + 1) #[.slice a4 R.1.length c4, .int .i64 R.2.1, .int .i64 T] 47) := hid (by have h := blk_set BP.out 2 (.int .i64 T); simp only [List.setIfInBounds_toArray, List.set_cons_zero, List.set_cons_succ] at h; exact h)
      have KS : Hd (Keeps (fun b => b = w.heap.size + 1 + 1 + 1) W10 (W10.setCell ⟨w.heap.size + 1 + 1 + 1, 2, none⟩ (.int .i64 T))) := hid (keq (Keeps.refl _ _) 2 _)
      have BR0X := hid (blk_keep BR0.out KS.out (by omega))
      have BR1X := hid (blk_keep BR1.out KS.out (by omega))
      have BKX := hid (blk_keep BK.out KS.out (by omega))
      have F3X := hid (F3.out.keep KS.out (fun b _ h1 h2 => by omega))
      have F4X := hid (F4.out.keep KS.out (fun b _ h1 h2 => by omega))
      have HKX : Hd (Keeps (fun _ => False) w (W10.setCell ⟨w.heap.size + 1 + 1 + 1, 2, none⟩ (.int .i64 T))) := hid (HK.out.trans' KS.out (fun i hi h => by omega))
      clear BP2
      go_wp2
      go_roundw
      case rel => exact ⟨k + 1, T, R.2.1, R.1, a3, c3, a4, c4, rfl, by go_num, by omega, by omega, by omega, by omega, by omega, by omega, hid HGR.out, BR0X, BR1X, BKX, BPX, hid (F3X.out.mono (fun b _ h => by omega)), F4X, HKX⟩
      case measure => simp [intOf]; omega
    · rcases Nat.lt_or_ge k m with h1 | h1
      · obtain rfl : k = 12 := by omega
        have k1 : ((12 : Nat) : Int) < m := by omega
        have k2 : (12 : Int) < m := by omega
        clear hkm
        have o_BR0_0 : wr.cell? ⟨w.heap.size, 0, none⟩ = some (.slice none 0 0) := blk_cell BR0.out 0
        have o_BR0_1 : wr.cell? ⟨w.heap.size, 1, none⟩ = some (.int .i64 0) := blk_cell BR0.out 1
        have o_BR1_0 : wr.cell? ⟨w.heap.size + 1, 0, none⟩ = some (.slice none 0 0) := blk_cell BR1.out 0
        have o_BR1_1 : wr.cell? ⟨w.heap.size + 1, 1, none⟩ = some (.int .i64 0) := blk_cell BR1.out 1
        have o_BR1_2 : wr.cell? ⟨w.heap.size + 1, 2, none⟩ = some (.int .i64 0) := blk_cell BR1.out 2
        have f_BR0_0 : wr.frozen? ⟨w.heap.size, 0, none⟩ = false := blk_free BR0.out 0
        have f_BR0_1 : wr.frozen? ⟨w.heap.size, 1, none⟩ = false := blk_free BR0.out 1
        have f_BR1_0 : wr.frozen? ⟨w.heap.size + 1, 0, none⟩ = false := blk_free BR1.out 0
        have f_BR1_1 : wr.frozen? ⟨w.heap.size + 1, 1, none⟩ = false := blk_free BR1.out 1
        have f_BR1_2 : wr.frozen? ⟨w.heap.size + 1, 2, none⟩ = false := blk_free BR1.out 2
        have o_BK_0 : wr.cell? ⟨w.heap.size + 1 + 1, 0, none⟩ = some (.slice a1 l.length c1) := blk_cell BK.out 0
        have o_BK_1 : wr.cell? ⟨w.heap.size + 1 + 1, 1, none⟩ = some (.int .i64 cn) := blk_cell BK.out 1
        have o_BP_0 : wr.cell? ⟨w.heap.size + 1 + 1 + 1, 0, none⟩ = some (.slice a2 l.length c2) := blk_cell BP.out 0
        have o_BP_1 : wr.cell? ⟨w.heap.size + 1 + 1 + 1, 1, none⟩ = some (.int .i64 cn) := blk_cell BP.out 1
        have o_BP_2 : wr.cell? ⟨w.heap.size + 1 + 1 + 1, 2, none⟩ = some (.int .i64 tick) := blk_cell BP.out 2
        go_wp2
        go_region
        clear o_BR0_0 o_BR0_1 o_BR1_0 o_BR1_1 o_BR1_2 f_BR0_0 f_BR0_1 f_BR1_0 f_BR1_1 f_BR1_2 o_BK_0 o_BK_1 o_BP_0 o_BP_1 o_BP_2
        generalize hW : World.drew _ = FW
        have FB0 : Hd (Blk FW w.heap.size #[.slice a1 l.length c1, .int .i64 cn] 28) := hid (by rw [← hW]; exact blk_drew (blk_other (blk_other (blk_other (blk_set (blk_set BR0.out 0 _) 1 _) (by omega) 0 _) (by omega) 1 _) (by omega) 2 _))
        have FB1 : Hd (Blk FW (w.heap.size + 1) #[.slice a2 l.length c2, .int .i64 cn, .int .i64 tick] 47) := hid (by rw [← hW]; exact blk_drew (blk_set (blk_set (blk_set (blk_other (blk_other BR1.out (by omega) 0 _) (by omega) 1 _) 0 _) 1 _) 2 _))
        have KS : Hd (Keeps (fun b => b = w.heap.size ∨ b = w.heap.size + 1) wr FW) := hid (by rw [← hW]; exact Keeps.drew (by repeat (first | (with_reducible exact Keeps.refl _ _) | refine Keeps.setCell ?_ (.inl (by first | exact Or.inl rfl | exact Or.inr rfl)) _)))
        have KF : Hd (Keeps (fun _ => False) w FW) := hid (HK.out.trans' KS.out (fun i hi h => by omega))
        have G1 := hid ((F1.out.keep KS.out (fun b _ h1 h2 => by omega)).mono (K' := fun b => w.heap.size ≤ b) (fun b _ h => by omega))
        have G2 := hid ((F2.out.keep KS.out (fun b _ h1 h2 => by omega)).mono (K' := fun b => w.heap.size ≤ b) (fun b _ h => by omega))
        clear hW
        have r0 := blk_cell FB0.out 0
        have r1 := blk_cell FB0.out 1
        have r2 := blk_cell FB1.out 0
        have r3 := blk_cell FB1.out 1
        have r4 := blk_cell FB1.out 2
        go_wp2
        refine bodyPost_ret (v := .tuple #[.agg #[.slice a1 l.length c1, .int .i64 cn], .agg #[.slice a2 l.length c2, .int .i64 cn, .int .i64 tick], .bool true]) (by simp [results, Try.results13, go_sem, r0, r1, r2, r3, r4]) rfl ?_
        exact ⟨l, cn, tick, a1, c1, a2, c2, rfl, good_mono HG.out (by omega) (Int.le_refl _), by omega, by omega, G1.out, G2.out, KF.out⟩
      · obtain rfl : k = m := by omega
        have k1 : ¬ ((k : Int) < k) := by omega
        clear hkm
        have o_BR0_0 : wr.cell? ⟨w.heap.size, 0, none⟩ = some (.slice none 0 0) := blk_cell BR0.out 0
        have o_BR0_1 : wr.cell? ⟨w.heap.size, 1, none⟩ = some (.int .i64 0) := blk_cell BR0.out 1
        have o_BR1_0 : wr.cell? ⟨w.heap.size + 1, 0, none⟩ = some (.slice none 0 0) := blk_cell BR1.out 0
        have o_BR1_1 : wr.cell? ⟨w.heap.size + 1, 1, none⟩ = some (.int .i64 0) := blk_cell BR1.out 1
        have o_BR1_2 : wr.cell? ⟨w.heap.size + 1, 2, none⟩ = some (.int .i64 0) := blk_cell BR1.out 2
        have f_BR0_0 : wr.frozen? ⟨w.heap.size, 0, none⟩ = false := blk_free BR0.out 0
        have f_BR0_1 : wr.frozen? ⟨w.heap.size, 1, none⟩ = false := blk_free BR0.out 1
        have f_BR1_0 : wr.frozen? ⟨w.heap.size + 1, 0, none⟩ = false := blk_free BR1.out 0
        have f_BR1_1 : wr.frozen? ⟨w.heap.size + 1, 1, none⟩ = false := blk_free BR1.out 1
        have f_BR1_2 : wr.frozen? ⟨w.heap.size + 1, 2, none⟩ = false := blk_free BR1.out 2
        have o_BK_0 : wr.cell? ⟨w.heap.size + 1 + 1, 0, none⟩ = some (.slice a1 l.length c1) := blk_cell BK.out 0
        have o_BK_1 : wr.cell? ⟨w.heap.size + 1 + 1, 1, none⟩ = some (.int .i64 cn) := blk_cell BK.out 1
        have o_BP_0 : wr.cell? ⟨w.heap.size + 1 + 1 + 1, 0, none⟩ = some (.slice a2 l.length c2) := blk_cell BP.out 0
        have o_BP_1 : wr.cell? ⟨w.heap.size + 1 + 1 + 1, 1, none⟩ = some (.int .i64 cn) := blk_cell BP.out 1
        have o_BP_2 : wr.cell? ⟨w.heap.size + 1 + 1 + 1, 2, none⟩ = some (.int .i64 tick) := blk_cell BP.out 2
        go_wp2
        go_region
        clear o_BR0_0 o_BR0_1 o_BR1_0 o_BR1_1 o_BR1_2 f_BR0_0 f_BR0_1 f_BR1_0 f_BR1_1 f_BR1_2 o_BK_0 o_BK_1 o_BP_0 o_BP_1 o_BP_2
        generalize hW : World.drew _ = FW
        have FB0 : Hd (Blk FW w.heap.size #[.slice a1 l.length c1, .int .i64 cn] 28) := hid (by rw [← hW]; exact blk_drew (blk_other (blk_other (blk_other (blk_set (blk_set BR0.out 0 _) 1 _) (by omega) 0 _) (by omega) 1 _) (by omega) 2 _))
        have FB1 : Hd (Blk FW (w.heap.size + 1) #[.slice a2 l.length c2, .int .i64 cn, .int .i64 tick] 47) := hid (by rw [← hW]; exact blk_drew (blk_set (blk_set (blk_set (blk_other (blk_other BR1.out (by omega) 0 _) (by omega) 1 _) 0 _) 1 _) 2 _))
        have KS : Hd (Keeps (fun b => b = w.heap.size ∨ b = w.heap.size + 1) wr FW) := hid (by rw [← hW]; exact Keeps.drew (by repeat (first | (with_reducible exact Keeps.refl _ _) | refine Keeps.setCell ?_ (.inl (by first | exact Or.inl rfl | exact Or.inr rfl)) _)))
        have KF : Hd (Keeps (fun _ => False) w FW) := hid (HK.out.trans' KS.out (fun i hi h => by omega))
        have G1 := hid ((F1.out.keep KS.out (fun b _ h1 h2 => by omega)).mono (K' := fun b => w.heap.size ≤ b) (fun b _ h => by omega))
        have G2 := hid ((F2.out.keep KS.out (fun b _ h1 h2 => by omega)).mono (K' := fun b => w.heap.size ≤ b) (fun b _ h => by omega))
        clear hW
        have r0 := blk_cell FB0.out 0
        have r1 := blk_cell FB0.out 1
        have r2 := blk_cell FB1.out 0
        have r3 := blk_cell FB1.out 1
        have r4 := blk_cell FB1.out 2
        go_wp2
        refine bodyPost_ret (v := .tuple #[.agg #[.slice a1 l.length c1, .int .i64 cn], .agg #[.slice a2 l.length c2, .int .i64 cn, .int .i64 tick], .bool true]) (by simp [results, Try.results13, go_sem, r0, r1, r2, r3, r4]) rfl ?_
        exact ⟨l, cn, tick, a1, c1, a2, c2, rfl, good_mono HG.out (by omega) (Int.le_refl _), by omega, by omega, G1.out, G2.out, KF.out⟩
end Go.Proofs.Ytjapmpolagblaaa
