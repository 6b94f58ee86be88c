/- File: SameGaps; the examples of the chapter. -/
import Derived.Test.YtgeicbjlichdgaaDoorFileK
namespace Go.Proofs.YtgeicbjlichdgaaDoor
open Go.RowKit
attribute [local go_sem ↓] Go.wp_at_zero Go.wp_at_succ
theorem sl_cells {w : World} {g : Nat} {l : List Nat} (hm : l.length ≤ 1000) (h : Blk w g (u8s l).toArray 5) : Sl (fun _ => True) w (.slice (some ⟨g, 0, none⟩) l.length l.length) (u8s l) := by
  refine ⟨by simp, .inr ⟨⟨g, 0, none⟩, l.length, by simp, by simp, by unfold maxLen; omega, fun _ => ⟨g, 0, rfl, trivial, blk_lt h, fun j hj => ?_⟩⟩⟩
  rw [Nat.zero_add, blk_cell h j]
  simp only [u8s_length, Nat.mul_one] at hj
  simp [List.getD, hj, u8s]
theorem Row.blk {V : World} {g : Nat} {cs : Array Value} {T : TypeId} (h : Blk V g cs T) (n size : Nat) (hl : cs.size = n * size) (hm : n ≤ maxLen) : Row (fun _ => True) V size (.slice (some ⟨g, 0, none⟩) n n) n cs.toList :=
  ⟨by simpa using hl, .inr ⟨_, n, rfl, Nat.le_refl _, hm, fun _ => ⟨g, 0, rfl, trivial, blk_lt h, fun j hj => by
    rw [Nat.zero_add, blk_cell h j]
    have : j < cs.size := by omega
    simp [List.getD, this]⟩⟩⟩
def NibF (w : World) : Prop := Cr.Nib w
theorem NibF.keep {S : Nat → Prop} {w w' : World} (h : NibF w) (hk : Keeps S w w') (hs : ∀ b : Nat, b = b → b = 0 → ¬ S b) : NibF w' := Cr.Nib.keep h hk (hs 0 rfl rfl)
theorem NibF.pos {w : World} (h : NibF w) : 0 < w.heap.size := by
  have h0 := h 0 (by omega)
  rcases Nat.eq_zero_or_pos w.heap.size with e | e
  · exfalso
    have : w.heap[0]? = none := by rw [Array.getElem?_eq_none]; omega
    simp [World.cell?, this] at h0
  · exact e
theorem Gps.keep {K S : Nat → Prop} {w w' : World} {v : Value} {l : List (Int × Int)} (h : Gps K w v l) (hk : Keeps S w w') (hd : ∀ b, b < w.heap.size → K b → ¬ S b) : Gps K w' v l := Row.keep h hk hd
set_option maxRecDepth 100000 in set_option maxHeartbeats 1000000 in
theorem SameGaps_any (K1 K2 : Nat → Prop) (v1 v2 : Value) (l : List (Int × Int)) (w : World) (h1 : Gps K1 w v1 l) (h2 : Gps K2 w v2 l) :
    Calls Tryd.prog 36 #[v1, v2] w fun e w' => e = .returned (.bool true) ∧ Keeps (fun _ => False) w w' := by
  obtain ⟨a1, c1, rfl, q1, q2, _⟩ := Row.form h1
  obtain ⟨a2, c2, rfl, _⟩ := Row.form h2
  unfold maxLen at q2
  have H1 := hid h1; have H2 := hid h2
  clear h1 h2
  generalize hln : l.length = m at *
  have HLN := hid hln; clear hln
  have n1 : ((m : Int) != m) = false := by simp
  go_enter Tryd.func36, Tryd.ntmps36
  go_wp2_with fail
  go_loopw [5] (fun i wr => ∃ k : Nat, i = .int .i64 k ∧ k ≤ m ∧ Hd (Keeps (fun _ => False) w wr)) (fun i _ => m - (intOf i).toNat)
  case atStart => exact ⟨0, rfl, Nat.zero_le _, hid (Keeps.refl _ _)⟩
  case round =>
    obtain ⟨k, rfl, hk, KR⟩ := hrel
    have k2 : (0 : Int) ≤ k := by omega
    by_cases hkm : k < m
    · have k1 : (k : Int) < m := by omega
      obtain ⟨x, hx⟩ : ∃ x, l[k]? = some x := ⟨l[k]'(by rw [HLN.out]; exact hkm), List.getElem?_eq_getElem _⟩
      obtain ⟨b1, o1, rfl, hb1, hb2, s0, s1⟩ := gps_at H1.out hx
      obtain ⟨b2, o2, rfl, hb3, hb4, t0, t1⟩ := gps_at H2.out hx
      have f0 := keep_cell KR.out (fun h => h) s0; have f1 := keep_cell KR.out (fun h => h) s1
      have g0 := keep_cell KR.out (fun h => h) t0; have g1 := keep_cell KR.out (fun h => h) t1
      clear s0 s1 t0 t1 hx
      have KD : Hd (∀ n, Keeps (fun _ => False) w (wr.drewN n)) := hid (fun n => KR.out.drewN n)
      go_upto_region 6 with fail
      go_quiet (fail)
      go_wp2
      go_roundw
      case rel => exact ⟨k + 1, by go_num, by omega, hid (by first | exact KD.out _ | exact KR.out.drew | exact KR.out)⟩
      case measure => simp [intOf]; omega
    · obtain rfl : k = m := by omega
      have k0 : ¬ ((k : Int) < k) := by omega
      go_wp2
      go_ret
      exact ⟨rfl, KR.out⟩
set_option maxRecDepth 100000 in set_option maxHeartbeats 1000000 in
theorem lives_any (w : World) (hN : Cr.Nib w) : Calls Tryd.prog 17 #[] w fun e w' => e = .returned (.bool true) ∧ Keeps (fun _ => False) w w' := by
  have HN : Hd (NibF w) := hid hN
  have hpos := HN.out.pos
  obtain ⟨S, hS⟩ : ∃ S, Cr.crc [1, 2, 3, 4, 5] = S := ⟨_, rfl⟩
  have hS32 : Hd (S < 4294967296) := hid (by rw [← hS]; exact Cr.crc_lt (by simp))
  have hc1 : cutL 7 [1, 2, 3, 4, 5] 2 = [⟨7, 0, 5, S, [1, 2]⟩, ⟨7, 2, 5, S, [3, 4]⟩, ⟨7, 4, 5, S, [5]⟩] := by rw [← hS]; kernel_rfl
  have hc2 : cutL 7 [1, 2, 3, 4, 5] 0 = [] := by kernel_rfl
  have hf1 : fitsL [1, 2, 3, 4, 5] 2 = 0 := by kernel_rfl
  have hf2 : fitsL [1, 2, 3, 4, 5] 0 = 1 := by kernel_rfl
  have ha1 : answerL 7 [1, 2, 3, 4, 5] [(0, 2), (4, 5)] 10 = [⟨7, 0, 5, S, [1, 2]⟩, ⟨7, 4, 5, S, [5]⟩] := by rw [← hS]; kernel_rfl
  have ha2 : answerL 7 [1, 2, 3, 4, 5] [(-3, 100)] 3 = [⟨7, 0, 5, S, [1, 2, 3]⟩, ⟨7, 3, 5, S, [4, 5]⟩] := by rw [← hS]; kernel_rfl
  have HC1 := hid hc1; have HC2 := hid hc2; have HF1 := hid hf1; have HF2 := hid hf2; have HA1 := hid ha1; have HA2 := hid ha2
  clear hc1 hc2 hf1 hf2 ha1 ha2 hS hN
  have HPE : Hd (putE (newM 7) ⟨7, 2, 5, S, [3, 4]⟩ = 0) := hid (by kernel_rfl)
  have HPM : Hd (putM (newM 7) ⟨7, 2, 5, S, [3, 4]⟩ = ⟨7, true, S, [false, false, true, true, false], [0, 0, 3, 4, 0]⟩) := hid (by kernel_rfl)
  obtain ⟨M1, hM1⟩ : ∃ M1 : Pm, M1 = ⟨7, true, S, [false, false, true, true, false], [0, 0, 3, 4, 0]⟩ := ⟨_, rfl⟩
  have HMO : Hd M1.ok := hid (by rw [hM1]; exact ⟨rfl, by simp, by simp, hS32.out, fun h => by cases h⟩)
  have HGM : Hd (gapsM M1 = [(0, 2), (4, 5)]) := hid (by rw [hM1]; kernel_rfl)
  have HBM : Hd (bytesM M1 = ([], 6)) := hid (by rw [hM1]; kernel_rfl)
  rw [← hM1] at HPM
  clear hM1
  go_enter Tryd.func17, Tryd.ntmps17
  go_upto_region 2 with fail
  generalize hW : World.alloc w _ = W1
  have KS : Hd (Keeps (fun _ => False) w W1) := hid (by rw [← hW]; exact (Keeps.alloc (Keeps.refl (fun _ => False) w) _))
  have HN' : Hd (NibF W1) := hid (HN.out.keep KS.out (fun _ _ _ h => h))
  have BB : Hd (Blk W1 w.heap.size #[.int .u8 1, .int .u8 2, .int .u8 3, .int .u8 4, .int .u8 5] 5) := hid (by rw [← hW]; exact (blk_new _ _ _))
  clear HN
  have HN := HN'
  clear HN'
  have HK : Hd (Keeps (fun _ => False) w W1) := hid KS.out
  have z_W1 : w.heap.size + 1 ≤ W1.heap.size := by rw [← hW]; simp
  clear hW KS
  have SB : Hd (Sl (fun b => b < W1.heap.size) W1 (.slice (some ⟨w.heap.size, 0, none⟩) 5 5) (u8s [1, 2, 3, 4, 5])) := hid ((sl_cells (l := [1, 2, 3, 4, 5]) (by simp) BB.out).mono (fun b h _ => h))
  go_wp2_with fail
  refine (Cut_any (.slice (some ⟨w.heap.size, 0, none⟩) 5 5) [1, 2, 3, 4, 5] 7 2 _ HN.out (SB.out.mono (fun b h _ => h)) (by simp) (by simp)).mono ?_
  rw [HC1.out, HF1.out]
  rintro e W2 ⟨la, ln, lc, rfl, hln, hlp, hk⟩
  obtain rfl : ln = 3 := hln
  have SL := hid (hlp.sgs.mono (K' := fun b => W1.heap.size ≤ b ∧ b < W2.heap.size) (fun b h1 h2 => ⟨by rcases h2 with h2 | h2 <;> exact h2, h1⟩))
  clear hlp
  have HN' : Hd (NibF W2) := hid (HN.out.keep hk (fun _ _ _ h => h))
  have BB' : Hd (Blk W2 w.heap.size #[.int .u8 1, .int .u8 2, .int .u8 3, .int .u8 4, .int .u8 5] 5) := hid (blk_keep BB.out hk (fun h => h))
  have SB' : Hd (Sl (fun b => b < W1.heap.size) W2 (.slice (some ⟨w.heap.size, 0, none⟩) 5 5) (u8s [1, 2, 3, 4, 5])) := hid (SB.out.keep hk (fun _ _ _ h => h))
  clear HN BB SB
  have HN := HN'
  clear HN'
  have BB := BB'
  clear BB'
  have SB := SB'
  clear SB'
  have HK' : Hd (Keeps (fun _ => False) w W2) := hid (HK.out.trans hk)
  clear HK
  have HK := HK'
  clear HK'
  have z_W2 := hk.size
  clear hk
  go_wp2_with fail
  refine (Cut_any (.slice (some ⟨w.heap.size, 0, none⟩) 5 5) [1, 2, 3, 4, 5] 7 0 _ HN.out (SB.out.mono (fun b h _ => h)) (by simp) (by simp)).mono ?_
  rw [HC2.out, HF2.out]
  rintro e W3 ⟨ma, mn, mc, rfl, hmn, -, hk⟩
  clear hmn
  have HN' : Hd (NibF W3) := hid (HN.out.keep hk (fun _ _ _ h => h))
  have BB' : Hd (Blk W3 w.heap.size #[.int .u8 1, .int .u8 2, .int .u8 3, .int .u8 4, .int .u8 5] 5) := hid (blk_keep BB.out hk (fun h => h))
  have SB' : Hd (Sl (fun b => b < W1.heap.size) W3 (.slice (some ⟨w.heap.size, 0, none⟩) 5 5) (u8s [1, 2, 3, 4, 5])) := hid (SB.out.keep hk (fun _ _ _ h => h))
  have SL' : Hd (Sgs (fun b => W1.heap.size ≤ b ∧ b < W2.heap.size) W3 (.slice la 3 lc) [⟨7, 0, 5, S, [1, 2]⟩, ⟨7, 2, 5, S, [3, 4]⟩, ⟨7, 4, 5, S, [5]⟩]) := hid (SL.out.keep hk (fun _ _ _ h => h))
  clear HN BB SB SL
  have HN := HN'
  clear HN'
  have BB := BB'
  clear BB'
  have SB := SB'
  clear SB'
  have SL := SL'
  clear SL'
  have HK' : Hd (Keeps (fun _ => False) w W3) := hid (HK.out.trans hk)
  clear HK
  have HK := HK'
  clear HK'
  have z_W3 := hk.size
  clear hk
  go_wp2_with fail
  refine (NewPart_any 7 _).mono ?_
  rintro e W4 ⟨rfl, hp, hk⟩
  have HP := hid hp
  clear hp
  have HN' : Hd (NibF W4) := hid (HN.out.keep hk (fun _ _ _ h => h))
  have BB' : Hd (Blk W4 w.heap.size #[.int .u8 1, .int .u8 2, .int .u8 3, .int .u8 4, .int .u8 5] 5) := hid (blk_keep BB.out hk (fun h => h))
  have SB' : Hd (Sl (fun b => b < W1.heap.size) W4 (.slice (some ⟨w.heap.size, 0, none⟩) 5 5) (u8s [1, 2, 3, 4, 5])) := hid (SB.out.keep hk (fun _ _ _ h => h))
  have SL' : Hd (Sgs (fun b => W1.heap.size ≤ b ∧ b < W2.heap.size) W4 (.slice la 3 lc) [⟨7, 0, 5, S, [1, 2]⟩, ⟨7, 2, 5, S, [3, 4]⟩, ⟨7, 4, 5, S, [5]⟩]) := hid (SL.out.keep hk (fun _ _ _ h => h))
  clear HN BB SB SL
  have HN := HN'
  clear HN'
  have BB := BB'
  clear BB'
  have SB := SB'
  clear SB'
  have SL := SL'
  clear SL'
  have HK' : Hd (Keeps (fun _ => False) w W4) := hid (HK.out.trans hk)
  clear HK
  have HK := HK'
  clear HK'
  have z_W4 := hk.size
  clear hk
  have lt_p : W3.heap.size < W4.heap.size := by obtain ⟨_, _, _, _, hb, _⟩ := HP.out; exact blk_lt hb
  obtain ⟨lb, lo, rfl, _, hlb, hlc⟩ := sgs_cells SL.out (by simp)
  obtain ⟨u0, u1, u2, u3, lad, lcd, u4, hls⟩ := hlc 1 _ rfl
  simp only [Nat.one_mul, List.length_cons, List.length_nil, Nat.zero_add, Nat.reduceAdd] at u0 u1 u2 u3 u4 hls
  have HLS := hid hls
  clear hlc hls
  go_wp2_with fail
  refine (Put_any (fun b => b = W3.heap.size) _ (newM 7) ⟨7, 2, 5, S, [3, 4]⟩ lad lcd _ HP.out (newM_ok 7) (HLS.out.mono (fun b h1 h2 => ⟨by omega, h1⟩)) (by simp) hS32.out).mono ?_
  rintro e W5 ⟨rfl, hp, hk⟩
  rw [HPE.out]
  rw [HPM.out] at hp
  clear u0 u1 u2 u3 u4 HLS HP
  have HN' : Hd (NibF W5) := hid (HN.out.keep hk (fun b h1 h2 h3 => by omega))
  clear HN
  have HN := HN'
  clear HN'
  have SB' : Hd (Sl (fun b => b < W1.heap.size) W5 (.slice (some ⟨w.heap.size, 0, none⟩) 5 5) (u8s [1, 2, 3, 4, 5])) := hid (SB.out.keep hk (fun b h1 h2 h3 => by omega))
  clear SB
  have SB := SB'
  clear SB'
  have SL' : Hd (Sgs (fun b => W1.heap.size ≤ b ∧ b < W2.heap.size) W5 (.slice (some ⟨lb, lo, none⟩) 3 lc) [⟨7, 0, 5, S, [1, 2]⟩, ⟨7, 2, 5, S, [3, 4]⟩, ⟨7, 4, 5, S, [5]⟩]) := hid (SL.out.keep hk (fun b h1 h2 h3 => by omega))
  clear SL
  have SL := SL'
  clear SL'
  clear BB
  have HK' : Hd (Keeps (fun _ => False) w W5) := hid (HK.out.trans' hk (fun i hi h => by omega))
  clear HK
  have HK := HK'
  clear HK'
  have HP := hid hp
  have z_W5 := hk.size
  clear hp hk
  go_wp2_with fail
  refine (Bytes_any _ _ M1 _ HN.out HP.out HMO.out).mono ?_
  rw [HBM.out]
  rintro e W6 ⟨ba, bc, rfl, -, hk⟩
  have HN' : Hd (NibF W6) := hid (HN.out.keep hk (fun _ _ _ h => h))
  have SB' : Hd (Sl (fun b => b < W1.heap.size) W6 (.slice (some ⟨w.heap.size, 0, none⟩) 5 5) (u8s [1, 2, 3, 4, 5])) := hid (SB.out.keep hk (fun _ _ _ h => h))
  have SL' : Hd (Sgs (fun b => W1.heap.size ≤ b ∧ b < W2.heap.size) W6 (.slice (some ⟨lb, lo, none⟩) 3 lc) [⟨7, 0, 5, S, [1, 2]⟩, ⟨7, 2, 5, S, [3, 4]⟩, ⟨7, 4, 5, S, [5]⟩]) := hid (SL.out.keep hk (fun _ _ _ h => h))
  have HP' : Hd (PartR (fun b => b = W3.heap.size ∨ W4.heap.size ≤ b) W6 W3.heap.size M1) := hid (HP.out.keep hk (fun _ _ _ h => h))
  clear HN SB SL HP
  have HN := HN'
  clear HN'
  have SB := SB'
  clear SB'
  have SL := SL'
  clear SL'
  have HP := HP'
  clear HP'
  have HK' : Hd (Keeps (fun _ => False) w W6) := hid (HK.out.trans hk)
  clear HK
  have HK := HK'
  clear HK'
  have z_W6 := hk.size
  clear hk
  go_wp2_with fail
  refine (Gaps_any _ _ M1 _ HP.out HMO.out).mono ?_
  rw [HGM.out]
  rintro e W7 ⟨ga, gc, rfl, hgo, hk⟩
  have SG := hid (Own.row hgo)
  clear hgo
  have HN' : Hd (NibF W7) := hid (HN.out.keep hk (fun _ _ _ h => h))
  have SB' : Hd (Sl (fun b => b < W1.heap.size) W7 (.slice (some ⟨w.heap.size, 0, none⟩) 5 5) (u8s [1, 2, 3, 4, 5])) := hid (SB.out.keep hk (fun _ _ _ h => h))
  have SL' : Hd (Sgs (fun b => W1.heap.size ≤ b ∧ b < W2.heap.size) W7 (.slice (some ⟨lb, lo, none⟩) 3 lc) [⟨7, 0, 5, S, [1, 2]⟩, ⟨7, 2, 5, S, [3, 4]⟩, ⟨7, 4, 5, S, [5]⟩]) := hid (SL.out.keep hk (fun _ _ _ h => h))
  have HP' : Hd (PartR (fun b => b = W3.heap.size ∨ W4.heap.size ≤ b) W7 W3.heap.size M1) := hid (HP.out.keep hk (fun _ _ _ h => h))
  clear HN SB SL HP
  have HN := HN'
  clear HN'
  have SB := SB'
  clear SB'
  have SL := SL'
  clear SL'
  have HP := HP'
  clear HP'
  have HK' : Hd (Keeps (fun _ => False) w W7) := hid (HK.out.trans hk)
  clear HK
  have HK := HK'
  clear HK'
  have z_W7 := hk.size
  clear hk
  go_wp2_with fail
  refine (Answer_any (.slice (some ⟨w.heap.size, 0, none⟩) 5 5) (.slice ga 2 gc) [1, 2, 3, 4, 5] [(0, 2), (4, 5)] 7 10 _ HN.out (SB.out.mono (fun b h _ => h)) (by simp) (Row.mono SG.out (fun b h _ => h)) (by simp) (by simp)).mono ?_
  rw [HA1.out]
  rintro e W8 ⟨aa, an, ac, rfl, han, hap, hk⟩
  obtain rfl : an = 2 := han
  have SA1 := hid (hap.sgs.mono (K' := fun _ => True) (fun _ _ _ => trivial))
  clear hap
  have HN' : Hd (NibF W8) := hid (HN.out.keep hk (fun _ _ _ h => h))
  have SB' : Hd (Sl (fun b => b < W1.heap.size) W8 (.slice (some ⟨w.heap.size, 0, none⟩) 5 5) (u8s [1, 2, 3, 4, 5])) := hid (SB.out.keep hk (fun _ _ _ h => h))
  have SL' : Hd (Sgs (fun b => W1.heap.size ≤ b ∧ b < W2.heap.size) W8 (.slice (some ⟨lb, lo, none⟩) 3 lc) [⟨7, 0, 5, S, [1, 2]⟩, ⟨7, 2, 5, S, [3, 4]⟩, ⟨7, 4, 5, S, [5]⟩]) := hid (SL.out.keep hk (fun _ _ _ h => h))
  have HP' : Hd (PartR (fun b => b = W3.heap.size ∨ W4.heap.size ≤ b) W8 W3.heap.size M1) := hid (HP.out.keep hk (fun _ _ _ h => h))
  have SG' : Hd (Gps (fun b => W6.heap.size ≤ b) W8 (.slice ga 2 gc) [(0, 2), (4, 5)]) := hid (SG.out.keep hk (fun _ _ _ h => h))
  clear HN SB SL HP SG
  have HN := HN'
  clear HN'
  have SB := SB'
  clear SB'
  have SL := SL'
  clear SL'
  have HP := HP'
  clear HP'
  have SG := SG'
  clear SG'
  have HK' : Hd (Keeps (fun _ => False) w W8) := hid (HK.out.trans hk)
  clear HK
  have HK := HK'
  clear HK'
  have z_W8 := hk.size
  clear hk
  have KAG := hid (keeps_alloc (fun _ => False) W8 (.cells #[.int .i64 (-3), .int .i64 100] 52))
  have HG3 : Hd (Gps (fun b => b < (World.alloc W8 (.cells #[.int .i64 (-3), .int .i64 100] 52)).heap.size) (World.alloc W8 (.cells #[.int .i64 (-3), .int .i64 100] 52)) (.slice (some ⟨W8.heap.size, 0, none⟩) 1 1) [(-3, 100)]) := hid ((lit_rowF W8 #[.int .i64 (-3), .int .i64 100] 52 1 2 rfl (by decide)).mono (fun b h _ => h))
  have HNX : Hd (NibF (World.alloc W8 (.cells #[.int .i64 (-3), .int .i64 100] 52))) := hid (HN.out.keep KAG.out (fun _ _ _ h => h))
  have SBX := hid (SB.out.keep KAG.out (fun _ _ _ h => h))
  go_wp2_with fail
  refine (Answer_any (.slice (some ⟨w.heap.size, 0, none⟩) 5 5) (.slice (some ⟨W8.heap.size, 0, none⟩) 1 1) [1, 2, 3, 4, 5] [(-3, 100)] 7 3 _ HNX.out (SBX.out.mono (fun b h _ => h)) (by simp) HG3.out (by simp) (by simp)).mono ?_
  rw [HA2.out]
  rintro e W9 ⟨ca, cn, cc, rfl, hcn, hcp, hk0⟩
  obtain rfl : cn = 2 := hcn
  have SA2 := hid (hcp.sgs.mono (K' := fun _ => True) (fun _ _ _ => trivial))
  have hk : Keeps (fun _ => False) W8 W9 := KAG.out.trans hk0
  clear hcp hk0 KAG HG3 HNX SBX
  have HN' : Hd (NibF W9) := hid (HN.out.keep hk (fun _ _ _ h => h))
  have SB' : Hd (Sl (fun b => b < W1.heap.size) W9 (.slice (some ⟨w.heap.size, 0, none⟩) 5 5) (u8s [1, 2, 3, 4, 5])) := hid (SB.out.keep hk (fun _ _ _ h => h))
  have SL' : Hd (Sgs (fun b => W1.heap.size ≤ b ∧ b < W2.heap.size) W9 (.slice (some ⟨lb, lo, none⟩) 3 lc) [⟨7, 0, 5, S, [1, 2]⟩, ⟨7, 2, 5, S, [3, 4]⟩, ⟨7, 4, 5, S, [5]⟩]) := hid (SL.out.keep hk (fun _ _ _ h => h))
  have HP' : Hd (PartR (fun b => b = W3.heap.size ∨ W4.heap.size ≤ b) W9 W3.heap.size M1) := hid (HP.out.keep hk (fun _ _ _ h => h))
  have SG' : Hd (Gps (fun b => W6.heap.size ≤ b) W9 (.slice ga 2 gc) [(0, 2), (4, 5)]) := hid (SG.out.keep hk (fun _ _ _ h => h))
  have SA1' : Hd (Sgs (fun _ => True) W9 (.slice aa 2 ac) [⟨7, 0, 5, S, [1, 2]⟩, ⟨7, 4, 5, S, [5]⟩]) := hid (SA1.out.keep hk (fun _ _ _ h => h))
  clear HN SB SL HP SG SA1
  have HN := HN'
  clear HN'
  have SB := SB'
  clear SB'
  have SL := SL'
  clear SL'
  have HP := HP'
  clear HP'
  have SG := SG'
  clear SG'
  have SA1 := SA1'
  clear SA1'
  have HK' : Hd (Keeps (fun _ => False) w W9) := hid (HK.out.trans hk)
  clear HK
  have HK := HK'
  clear HK'
  have z_W9 := hk.size
  clear hk
  go_upto_region 14 with fail
  have KAG := hid (keeps_alloc (fun _ => False) W9 (.cells #[.int .i64 0, .int .i64 2, .int .i64 4, .int .i64 5] 52))
  have HG4 : Hd (Gps (fun _ => True) (World.alloc W9 (.cells #[.int .i64 0, .int .i64 2, .int .i64 4, .int .i64 5] 52)) (.slice (some ⟨W9.heap.size, 0, none⟩) 2 2) [(0, 2), (4, 5)]) := hid (lit_rowF W9 #[.int .i64 0, .int .i64 2, .int .i64 4, .int .i64 5] 52 2 2 rfl (by decide))
  have SGX := hid (SG.out.keep KAG.out (fun _ _ _ h => h))
  go_wp2_with fail
  refine (SameGaps_any _ _ _ _ [(0, 2), (4, 5)] _ SGX.out HG4.out).mono ?_
  rintro e W10 ⟨rfl, hk0⟩
  have hk : Keeps (fun _ => False) W9 W10 := KAG.out.trans hk0
  clear hk0 KAG HG4 SGX
  have HN' : Hd (NibF W10) := hid (HN.out.keep hk (fun _ _ _ h => h))
  have SB' : Hd (Sl (fun b => b < W1.heap.size) W10 (.slice (some ⟨w.heap.size, 0, none⟩) 5 5) (u8s [1, 2, 3, 4, 5])) := hid (SB.out.keep hk (fun _ _ _ h => h))
  have SL' : Hd (Sgs (fun b => W1.heap.size ≤ b ∧ b < W2.heap.size) W10 (.slice (some ⟨lb, lo, none⟩) 3 lc) [⟨7, 0, 5, S, [1, 2]⟩, ⟨7, 2, 5, S, [3, 4]⟩, ⟨7, 4, 5, S, [5]⟩]) := hid (SL.out.keep hk (fun _ _ _ h => h))
  have HP' : Hd (PartR (fun b => b = W3.heap.size ∨ W4.heap.size ≤ b) W10 W3.heap.size M1) := hid (HP.out.keep hk (fun _ _ _ h => h))
  have SG' : Hd (Gps (fun b => W6.heap.size ≤ b) W10 (.slice ga 2 gc) [(0, 2), (4, 5)]) := hid (SG.out.keep hk (fun _ _ _ h => h))
  have SA1' : Hd (Sgs (fun _ => True) W10 (.slice aa 2 ac) [⟨7, 0, 5, S, [1, 2]⟩, ⟨7, 4, 5, S, [5]⟩]) := hid (SA1.out.keep hk (fun _ _ _ h => h))
  have SA2' : Hd (Sgs (fun _ => True) W10 (.slice ca 2 cc) [⟨7, 0, 5, S, [1, 2, 3]⟩, ⟨7, 3, 5, S, [4, 5]⟩]) := hid (SA2.out.keep hk (fun _ _ _ h => h))
  clear HN SB SL HP SG SA1 SA2
  have HN := HN'
  clear HN'
  have SB := SB'
  clear SB'
  have SL := SL'
  clear SL'
  have HP := HP'
  clear HP'
  have SG := SG'
  clear SG'
  have SA1 := SA1'
  clear SA1'
  have SA2 := SA2'
  clear SA2'
  have HK' : Hd (Keeps (fun _ => False) w W10) := hid (HK.out.trans hk)
  clear HK
  have HK := HK'
  clear HK'
  have z_W10 := hk.size
  clear hk
  obtain ⟨b1, o1, rfl, _, _, hc1⟩ := sgs_cells SA1.out (by simp)
  obtain ⟨_, v1, _, _, d1, e1, v2, _⟩ := hc1 1 _ rfl
  obtain ⟨b2, o2, rfl, _, _, hc2⟩ := sgs_cells SA2.out (by simp)
  obtain ⟨_, v3, _⟩ := hc2 1 _ rfl
  obtain ⟨b3, o3, hb3, _, _, hc3⟩ := sgs_cells SL.out (by simp)
  injection hb3 with hb3
  injection hb3 with hb31 hb32
  subst hb31 hb32
  obtain ⟨_, _, v4, _⟩ := hc3 2 _ rfl
  simp only [Nat.one_mul, List.length_cons, List.length_nil, Nat.zero_add, Nat.reduceAdd, Nat.reduceMul] at v1 v2 v3 v4
  clear hc1 hc2 hc3
  go_wp2
  go_ret
  exact ⟨rfl, HK.out⟩
end Go.Proofs.YtgeicbjlichdgaaDoor
