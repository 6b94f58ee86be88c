/- File: FileOrder walked. -/
import Derived.Test.YtgeicbjlichdgaaDoorFileP
namespace Go.Proofs.YtgeicbjlichdgaaDoor
open Go.RowKit
attribute [local go_sem ↓] Go.wp_at_zero Go.wp_at_succ
/-- a part under way in a loop that began in W: its blocks are those of Z and new ones -/
def PutSt (Z : Nat → Prop) (W : World) (p : Nat) (M : Pm) (w : World) : Prop := PartR (fun b => Z b ∨ W.heap.size ≤ b) w p M ∧ Keeps Z W w
theorem putSt_start {Z : Nat → Prop} {W : World} {p : Nat} {M : Pm} (h : PartR Z W p M) : PutSt Z W p M W := ⟨h.mono (fun _ _ h => .inl h), Keeps.refl _ _⟩
theorem putSt_put {Z : Nat → Prop} {W w w' : World} {p : Nat} {M : Pm} {y : Seg} {e : Ending} (h : PutSt Z W p M w) (hp : PutPost (fun b => Z b ∨ W.heap.size ≤ b) w p M y e w') : e = .returned (.int .i64 (putE M y)) ∧ PutSt Z W p (putM M y) w' := by
  obtain ⟨h1, h2, h3⟩ := hp
  refine ⟨h1, h2.mono (fun b _ hb => ?_), h.2.trans' h3 (fun i hi hb => ?_)⟩
  · rcases hb with hb | hb
    · exact hb
    · exact .inr (Nat.le_trans h.2.size hb)
  · rcases hb with hb | hb
    · exact hb
    · omega
theorem sl_below {K Z : Nat → Prop} {W w : World} {v : Value} {xs : List Value} (h : Sl K W v xs) (hk : Keeps Z W w) (hd : ∀ b, b < W.heap.size → K b → ¬ Z b) (hlt : ∀ b, b < W.heap.size → K b → b < W.heap.size) : Sl (fun b => ¬ (Z b ∨ W.heap.size ≤ b) ∧ b < w.heap.size) w v xs :=
  (h.mono (K' := fun b => ¬ (Z b ∨ W.heap.size ≤ b) ∧ b < w.heap.size) (fun b hb hK => ⟨fun e => by rcases e with e | e; exact hd b hb hK e; omega, Nat.lt_of_lt_of_le hb hk.size⟩)).keep hk (fun b _ h1 h2 => h1.1 (.inl h2))
set_option maxRecDepth 100000 in set_option maxHeartbeats 1000000 in
theorem order_any (v1 vs vo : Value) (l1 : List Nat) (sizes order : List Int) (id : Int) (w : World) (hN : Cr.Nib w) (h1 : Sl (fun b => b < w.heap.size) w v1 (u8s l1)) (hl1 : ∀ c ∈ l1, c < 256) (hs : Sl (fun b => b < w.heap.size) w vs (i64s sizes)) (hsr : I64s sizes) (ho : Sl (fun b => b < w.heap.size) w vo (i64s order)) (hor : I64s order) :
    Calls Tryd.prog 5 #[.int .i64 id, v1, vs, vo] w fun e w' => e = .returned (.bool true) ∧ Keeps (fun _ => False) w w' := by
  obtain ⟨i0, zz, hi, hz0, hz1, hz2, hz3⟩ := sg_parts
  have HS := hid hs; have HSR := hid hsr; have HO := hid ho; have HOR := hid hor
  clear hs hsr ho hor
  have HN : Hd (NibF w) := hid hN
  have hpos := HN.out.pos
  have H1 := hid h1
  obtain ⟨x, hx⟩ : ∃ x, l1.take 700 = x := ⟨_, rfl⟩
  have HFB : Hd (∀ c ∈ x, c < 256) := hid (by rw [← hx]; exact fun c hc => hl1 c (List.mem_of_mem_take hc))
  have hxl : x.length ≤ 700 := by rw [← hx, List.length_take]; omega
  have HFE := hid hx
  clear hN h1 hl1 hx
  go_enter Tryd.func5, Tryd.ntmps5
  go_wp2_with fail
  refine (most_any _ _ l1 _ H1.out).mono ?_
  rw [HFE.out]
  rintro e wx ⟨ma, mc, rfl, hm, rfl⟩
  have SM := hid hm; clear hm
  go_wp2_with fail
  refine (NewPart_any id _).mono ?_
  rintro e W1 ⟨rfl, hp, hk⟩
  have HP := hid hp
  clear hp
  have HN' : Hd (NibF W1) := hid (HN.out.keep hk (fun _ _ _ h => h))
  have H1' : Hd (Sl (fun b => b < w.heap.size) W1 v1 (u8s l1)) := hid (H1.out.keep hk (fun _ _ _ h => h))
  have HS' : Hd (Sl (fun b => b < w.heap.size) W1 vs (i64s sizes)) := hid (HS.out.keep hk (fun _ _ _ h => h))
  have HO' : Hd (Sl (fun b => b < w.heap.size) W1 vo (i64s order)) := hid (HO.out.keep hk (fun _ _ _ h => h))
  have SM' : Hd (Sl (fun b => b < w.heap.size) W1 (.slice ma x.length mc) (u8s x)) := hid (SM.out.keep hk (fun _ _ _ h => h))
  clear HN H1 HS HO SM
  have HN := HN'
  clear HN'
  have H1 := H1'
  clear H1'
  have HS := HS'
  clear HS'
  have HO := HO'
  clear HO'
  have SM := SM'
  clear SM'
  have HK : Hd (Keeps (fun _ => False) w W1) := hid hk
  have z_W1 := hk.size
  clear hk
  have lt_p : w.heap.size < W1.heap.size := by obtain ⟨_, _, _, _, hb, _⟩ := HP.out; exact blk_lt hb
  obtain ⟨L, hL⟩ : ∃ L, segsL id x sizes order = L := ⟨_, rfl⟩
  have HOL : Hd (∀ s ∈ L, OfF id x s) := hid (by rw [← hL]; exact segs_of (by omega))
  have hll : L.length ≤ 60 := by rw [← hL]; exact segs_len _ _ _ _
  have HL := hid hL
  clear hL
  go_wp2_with fail
  refine (segments_any _ _ _ x sizes order id _ HN.out (SM.out.mono (fun b h _ => h)) HFB.out (by omega) (HS.out.mono (fun b h _ => h)) (HO.out.mono (fun b h _ => h)) HSR.out HOR.out).mono ?_
  rw [HL.out]
  rintro e W2 ⟨la, ln, lc, rfl, rfl, hlp, hk⟩
  have HP1 := hid hlp
  clear hlp
  have HN' : Hd (NibF W2) := hid (HN.out.keep hk (fun _ _ _ h => h))
  have H1' : Hd (Sl (fun b => b < w.heap.size) W2 v1 (u8s l1)) := hid (H1.out.keep hk (fun _ _ _ h => h))
  have HS' : Hd (Sl (fun b => b < w.heap.size) W2 vs (i64s sizes)) := hid (HS.out.keep hk (fun _ _ _ h => h))
  have HO' : Hd (Sl (fun b => b < w.heap.size) W2 vo (i64s order)) := hid (HO.out.keep hk (fun _ _ _ h => h))
  have SM' : Hd (Sl (fun b => b < w.heap.size) W2 (.slice ma x.length mc) (u8s x)) := hid (SM.out.keep hk (fun _ _ _ h => h))
  have HP' : Hd (PartR (fun b => b = w.heap.size) W2 w.heap.size (newM id)) := hid (HP.out.keep hk (fun _ _ _ h => h))
  clear HN H1 HS HO SM HP
  have HN := HN'
  clear HN'
  have H1 := H1'
  clear H1'
  have HS := HS'
  clear HS'
  have HO := HO'
  clear HO'
  have SM := SM'
  clear SM'
  have HP := HP'
  clear HP'
  have HK' : Hd (Keeps (fun _ => False) w W2) := hid (HK.out.trans hk)
  clear HK
  have HK := HK'
  clear HK'
  have z_W2 := hk.size
  clear hk
  obtain ⟨pb0, pb1⟩ := pick_b order 0 (show (1 : Int) ≤ 256 by omega)
  go_wp2_with fail
  refine (Pick_any _ _ order 0 256 _ HO.out HOR.out (by omega) (by omega) (by omega)).mono ?_
  rintro e wx ⟨rfl, rfl⟩
  generalize pickL order 0 256 = z0 at *
  go_wp2_with fail
  refine (size_any z0 _ (by omega) (by omega)).mono ?_
  rintro e wx ⟨rfl, rfl⟩
  have HSLz : Hd (1 + around z0 256 = sizeL z0) := hid rfl
  have HZBz := hid (sizeL_b z0)
  rw [HSLz.out]
  generalize sizeL z0 = z at *
  clear HSLz
  obtain ⟨R, hR⟩ : ∃ R, cutL id x z = R := ⟨_, rfl⟩
  have HOR2 : Hd (∀ s ∈ R, OfF id x s) := hid (by rw [← hR]; exact cut_of)
  have HCV : Hd (∀ i, i < x.length → ∃ s ∈ R, inS s i = true) := hid (fun i hi => by rw [← hR]; exact cut_cov HZBz.out (by omega) hi)
  have HRN : Hd (R ≠ []) := hid (by rw [← hR]; exact cut_ne HZBz.out (by omega))
  have hRl : R.length ≤ x.length + 1 := by rw [← hR]; exact cutL_len _ _ _
  have hF0 : fitsL x z = 0 := fits_ok HZBz.out (by omega)
  have HRE := hid hR; have HF0 := hid hF0
  clear hR hF0
  go_wp2_with fail
  refine (Cut_any _ x id z _ HN.out (SM.out.mono (fun b h _ => h)) HFB.out (by omega)).mono ?_
  rw [HRE.out, HF0.out]
  rintro e W3 ⟨ra, rn, rc, rfl, rfl, hrp, hk⟩
  have HPR := hid hrp
  have HLT : Hd (∀ b, (Value.slice la L.length lc).ownBlock = some b → b < W2.heap.size) := hid (fun b hb => by obtain ⟨xs, g1, _⟩ := HP1.out; exact (g1.1.lt b hb).2)
  clear hrp
  have HN' : Hd (NibF W3) := hid (HN.out.keep hk (fun _ _ _ h => h))
  have H1' : Hd (Sl (fun b => b < w.heap.size) W3 v1 (u8s l1)) := hid (H1.out.keep hk (fun _ _ _ h => h))
  have HS' : Hd (Sl (fun b => b < w.heap.size) W3 vs (i64s sizes)) := hid (HS.out.keep hk (fun _ _ _ h => h))
  have HO' : Hd (Sl (fun b => b < w.heap.size) W3 vo (i64s order)) := hid (HO.out.keep hk (fun _ _ _ h => h))
  have SM' : Hd (Sl (fun b => b < w.heap.size) W3 (.slice ma x.length mc) (u8s x)) := hid (SM.out.keep hk (fun _ _ _ h => h))
  have HP' : Hd (PartR (fun b => b = w.heap.size) W3 w.heap.size (newM id)) := hid (HP.out.keep hk (fun _ _ _ h => h))
  have HP1' : Hd (SgP (fun k => W1.heap.size ≤ k) W1.heap.size W3 (.slice la L.length lc) L) := hid (HP1.out.keep hk (fun _ _ _ h => h))
  clear HN H1 HS HO SM HP HP1
  have HN := HN'
  clear HN'
  have H1 := H1'
  clear H1'
  have HS := HS'
  clear HS'
  have HO := HO'
  clear HO'
  have SM := SM'
  clear SM'
  have HP := HP'
  clear HP'
  have HP1 := HP1'
  clear HP1'
  have HK' : Hd (Keeps (fun _ => False) w W3) := hid (HK.out.trans hk)
  clear HK
  have HK := HK'
  clear HK'
  have z_W3 := hk.size
  clear hk
  obtain ⟨xs, hxo, hge, hxc⟩ := HP1.out
  have HXO := hid hxo; have HGE := hid hge; have HXC := hid hxc
  obtain ⟨nn, hno, hnge, hnc⟩ := HPR.out
  have HNROW : Hd (Row (fun _ => True) W3 5 (.slice ra R.length rc) R.length nn) := hid (hno.row.mono (fun _ _ _ => trivial)); have HNC := hid hnc; have HN1S := hid hnc.ones
  clear hxo hge hxc hno hnge hnc
  go_wp2_with (at_builtin; refine wpList_append_row rfl (.tmp 37) (.tmp 38) 23 rfl 44 i0 zz 5 56 Tryd.underlying23 hi hz0 hz1 hz2 hz3 (by decide) _ (fun _ => True) (.slice la L.length lc) _ L.length xs rfl HXO.out R.length nn rfl HNROW.out HN1S.out (by simp [maxLen]; omega) (by omega) ?_)
  intro a7 c7 W4 hown hk; try intro _
  have HPA : Hd (SgP (fun k => W1.heap.size ≤ k) W1.heap.size W4 (.slice a7 (L.length + R.length) c7) (L ++ R)) := hid (sgp_append HGE.out HXC.out (Keeps.refl _ _) (HNC.out.mono (fun b _ h => ⟨by omega, fun e => by have := HLT.out b e; omega⟩)) (by omega) hown hk)
  clear hown HXO HXC HNROW HNC HN1S HP1 HPR
  have HN' : Hd (NibF W4) := hid (HN.out.keep hk (fun b h1 h2 h3 => by have := HGE.out b h3; omega))
  have H1' : Hd (Sl (fun b => b < w.heap.size) W4 v1 (u8s l1)) := hid (H1.out.keep hk (fun b h1 h2 h3 => by have := HGE.out b h3; omega))
  have HS' : Hd (Sl (fun b => b < w.heap.size) W4 vs (i64s sizes)) := hid (HS.out.keep hk (fun b h1 h2 h3 => by have := HGE.out b h3; omega))
  have HO' : Hd (Sl (fun b => b < w.heap.size) W4 vo (i64s order)) := hid (HO.out.keep hk (fun b h1 h2 h3 => by have := HGE.out b h3; omega))
  have SM' : Hd (Sl (fun b => b < w.heap.size) W4 (.slice ma x.length mc) (u8s x)) := hid (SM.out.keep hk (fun b h1 h2 h3 => by have := HGE.out b h3; omega))
  have HP' : Hd (PartR (fun b => b = w.heap.size) W4 w.heap.size (newM id)) := hid (HP.out.keep hk (fun b h1 h2 h3 => by have := HGE.out b h3; omega))
  clear HN H1 HS HO SM HP
  have HN := HN'
  clear HN'
  have H1 := H1'
  clear H1'
  have HS := HS'
  clear HS'
  have HO := HO'
  clear HO'
  have SM := SM'
  clear SM'
  have HP := HP'
  clear HP'
  have HK' : Hd (Keeps (fun _ => False) w W4) := hid (HK.out.trans' hk (fun i hi h => by have := HGE.out i h; omega))
  clear HK
  have HK := HK'
  clear HK'
  have z_W4 := hk.size
  clear hk
  clear HGE HLT
  have SL := hid (HPA.out.sgs.mono (K' := fun b => W1.heap.size ≤ b) (fun b _ h => by rcases h with h | h <;> exact h))
  clear HPA
  obtain ⟨A, hA⟩ : ∃ A, L ++ R = A := ⟨_, rfl⟩
  have hal : L.length + R.length = A.length := by rw [← hA, List.length_append]
  rw [hA, hal] at SL
  have HOA : Hd (∀ s ∈ A, OfF id x s) := hid (by rw [← hA]; intro s hs; rcases List.mem_append.1 hs with h | h; exact HOL.out s h; exact HOR2.out s h)
  have HCA : Hd (∀ i, i < x.length → ∃ s ∈ A, inS s i = true) := hid (fun i hi => by obtain ⟨s, hs, h⟩ := HCV.out i hi; exact ⟨s, by rw [← hA]; exact List.mem_append_right _ hs, h⟩)
  have HAN : Hd (A ≠ []) := hid (by rw [← hA]; exact fun h => HRN.out (List.append_eq_nil_iff.1 h).2)
  simp only [hal]
  have HF00 : Hd (Fit id x (newM id)) := hid (newM_fit id x)
  obtain ⟨n, hn⟩ : ∃ n, A.length = n := ⟨_, rfl⟩
  rw [hn] at SL hal ⊢
  have HNL := hid hn
  clear hA HCV HRN
  go_wp2_with fail
  go_loopw [14] (fun iv wr => ∃ k : Nat, iv = .int .i64 k ∧ k ≤ n ∧ Hd (PutSt (fun b => b = w.heap.size) W4 (w.heap.size) ((A.take k).foldl putM (newM id)) wr)) (fun iv _ => n - (intOf iv).toNat)
  case atStart => exact ⟨0, rfl, Nat.zero_le _, hid (putSt_start HP.out)⟩
  case round =>
    obtain ⟨k, rfl, hk, PS⟩ := hrel
    by_cases hkm : k < n
    · have k1 : (k : Int) < n := by omega
      have k2 : (0 : Int) ≤ k := by omega
      obtain ⟨y, hy⟩ : ∃ y, A[k]? = some y := ⟨A[k]'(by omega), List.getElem?_eq_getElem _⟩
      obtain ⟨bx, ox, rfl, hbx, hbx2, hcx⟩ := sgs_cells SL.out (by omega)
      obtain ⟨x0, x1, x2, x3, ad, cd, x4, SX⟩ := hcx k y hy
      have ps2 := PS.out.2
      have m0 := keep_cell ps2 (fun h => by omega) x0; have m1 := keep_cell ps2 (fun h => by omega) x1; have m2 := keep_cell ps2 (fun h => by omega) x2; have m3 := keep_cell ps2 (fun h => by omega) x3; have m4 := keep_cell ps2 (fun h => by omega) x4
      have SXR := hid (SX.keep ps2 (fun b h1 h2 h3 => by omega))
      have HSX := hid SX
      have zps := ps2.size
      obtain ⟨f1, f2, f3⟩ := puts_of (show x.length ≤ 65536 by omega) HFB.out (A.take k) (newM id) HF00.out (fun s hs => HOA.out s (List.mem_of_mem_take hs))
      have HOY := HOA.out y (List.mem_of_getElem? hy)
      obtain ⟨e0, -, -⟩ := put_of (show x.length ≤ 65536 by omega) HFB.out f1 HOY
      have HNX : Hd ((A.take (k + 1)).foldl putM (newM id) = putM ((A.take k).foldl putM (newM id)) y) := hid (by rw [List.take_add_one, hy, List.foldl_append]; rfl)
      have HOK := hid f1.ok; have HE0 := hid e0; have HYB : Hd (∀ c ∈ y.d, c < 256) := hid (fun c hc => by rw [HOY.d] at hc; exact HFB.out c (List.mem_of_mem_drop (List.mem_of_mem_take hc))); have HY32 : Hd (y.s < 4294967296) := hid (by rw [HOY.s]; exact Cr.crc_lt HFB.out)
      have HYL : Hd (y.o + y.d.length ≤ x.length ∧ 0 ≤ y.o) := hid ⟨HOY.e, HOY.o⟩
      clear x0 x1 x2 x3 x4 hcx SX ps2 f1 f2 f3 e0 HOY
      generalize hM : (A.take k).foldl putM (newM id) = M at *
      clear hM
      go_wp2_with fail
      refine (Put_any _ _ M y ad cd _ PS.out.1 HOK.out (sl_below HSX.out PS.out.2 (fun b h1 h2 h3 => by omega) (fun b h1 h2 => by omega)) HYB.out HY32.out).mono ?_
      rintro e w2 hpp
      obtain ⟨rfl, PS2⟩ := putSt_put PS.out hpp
      rw [HE0.out]
      rw [← HNX.out] at PS2
      have HPS := hid PS2
      clear PS2 hpp PS SXR m0 m1 m2 m3 m4
      go_wp2
      go_roundw
      case rel => exact ⟨k + 1, by go_num, by omega, HPS⟩
      case measure => simp [intOf]; omega
    · have hkn : k = n := by omega
      have k0 : ¬ ((k : Int) < n) := by omega
      have PS9 : PutSt (fun b => b = w.heap.size) W4 (w.heap.size) (A.foldl putM (newM id)) wr := by have h := PS.out; rw [List.take_of_length_le (by omega)] at h; exact h
      clear hk hkm PS
      obtain ⟨W5, rfl⟩ : ∃ V, V = wr := ⟨_, rfl⟩
      obtain ⟨hp9, hk⟩ := PS9
      clear HP
      have HP := hid hp9
      clear hp9
      have HN' : Hd (NibF W5) := hid (HN.out.keep hk (fun b h1 h2 h3 => by omega))
      have H1' : Hd (Sl (fun b => b < w.heap.size) W5 v1 (u8s l1)) := hid (H1.out.keep hk (fun b h1 h2 h3 => by omega))
      have HS' : Hd (Sl (fun b => b < w.heap.size) W5 vs (i64s sizes)) := hid (HS.out.keep hk (fun b h1 h2 h3 => by omega))
      have HO' : Hd (Sl (fun b => b < w.heap.size) W5 vo (i64s order)) := hid (HO.out.keep hk (fun b h1 h2 h3 => by omega))
      have SM' : Hd (Sl (fun b => b < w.heap.size) W5 (.slice ma x.length mc) (u8s x)) := hid (SM.out.keep hk (fun b h1 h2 h3 => by omega))
      have SL' : Hd (Sgs (fun b => W1.heap.size ≤ b) W5 (.slice a7 n c7) A) := hid (SL.out.keep hk (fun b h1 h2 h3 => by omega))
      clear HN H1 HS HO SM SL
      have HN := HN'
      clear HN'
      have H1 := H1'
      clear H1'
      have HS := HS'
      clear HS'
      have HO := HO'
      clear HO'
      have SM := SM'
      clear SM'
      have SL := SL'
      clear SL'
      have HK' : Hd (Keeps (fun _ => False) w W5) := hid (HK.out.trans' hk (fun i hi h => by omega))
      clear HK
      have HK := HK'
      clear HK'
      have z_W5 := hk.size
      clear hk
      obtain ⟨f1, f2, f3⟩ := puts_of (show x.length ≤ 65536 by omega) HFB.out A (newM id) HF00.out HOA.out
      obtain ⟨d1, d2⟩ := fit_done f1 (f2 HAN.out) (fun i hi => by rw [f3 i]; obtain ⟨s, hs, h⟩ := HCA.out i hi; rw [List.any_eq_true.2 ⟨s, hs, h⟩, Bool.or_true])
      have HOK := hid f1.ok; have HG := hid d1; have HBY := hid d2
      clear f1 f2 f3 d1 d2
      generalize hM : A.foldl putM (newM id) = M at *
      clear hM
      go_wp2_with fail
      refine (Bytes_any _ _ M _ HN.out HP.out HOK.out).mono ?_
      rw [HBY.out]
      rintro e W6 ⟨ba, bc, rfl, hbo, hk⟩
      have SB : Hd (Sl (fun _ => True) _ (.slice ba x.length bc) (u8s x)) := hid (row_sl (hbo.row.mono (fun _ _ _ => trivial)) (by simp))
      clear hbo
      have HN' : Hd (NibF W6) := hid (HN.out.keep hk (fun _ _ _ h => h))
      have H1' : Hd (Sl (fun b => b < w.heap.size) W6 v1 (u8s l1)) := hid (H1.out.keep hk (fun _ _ _ h => h))
      have HS' : Hd (Sl (fun b => b < w.heap.size) W6 vs (i64s sizes)) := hid (HS.out.keep hk (fun _ _ _ h => h))
      have HO' : Hd (Sl (fun b => b < w.heap.size) W6 vo (i64s order)) := hid (HO.out.keep hk (fun _ _ _ h => h))
      have SM' : Hd (Sl (fun b => b < w.heap.size) W6 (.slice ma x.length mc) (u8s x)) := hid (SM.out.keep hk (fun _ _ _ h => h))
      have SL' : Hd (Sgs (fun b => W1.heap.size ≤ b) W6 (.slice a7 n c7) A) := hid (SL.out.keep hk (fun _ _ _ h => h))
      have HP' : Hd (PartR (fun b => (b = w.heap.size) ∨ W4.heap.size ≤ b) W6 (w.heap.size) M) := hid (HP.out.keep hk (fun _ _ _ h => h))
      clear HN H1 HS HO SM SL HP
      have HN := HN'
      clear HN'
      have H1 := H1'
      clear H1'
      have HS := HS'
      clear HS'
      have HO := HO'
      clear HO'
      have SM := SM'
      clear SM'
      have SL := SL'
      clear SL'
      have HP := HP'
      clear HP'
      have HK' : Hd (Keeps (fun _ => False) w W6) := hid (HK.out.trans hk)
      clear HK
      have HK := HK'
      clear HK'
      have z_W6 := hk.size
      clear hk
      go_wp2_with fail
      refine (SameBytes_any _ _ _ _ x x _ SB.out SM.out HFB.out HFB.out).mono ?_
      rw [decide_eq_true (rfl : x = x)]
      rintro e wx ⟨rfl, rfl⟩
      go_wp2_with fail
      refine (Gaps_any _ _ M _ HP.out HOK.out).mono ?_
      rw [HG.out]
      rintro e W7 ⟨ga, gc, rfl, -, hk⟩
      have HN' : Hd (NibF W7) := hid (HN.out.keep hk (fun _ _ _ h => h))
      have H1' : Hd (Sl (fun b => b < w.heap.size) W7 v1 (u8s l1)) := hid (H1.out.keep hk (fun _ _ _ h => h))
      have HS' : Hd (Sl (fun b => b < w.heap.size) W7 vs (i64s sizes)) := hid (HS.out.keep hk (fun _ _ _ h => h))
      have HO' : Hd (Sl (fun b => b < w.heap.size) W7 vo (i64s order)) := hid (HO.out.keep hk (fun _ _ _ h => h))
      have SM' : Hd (Sl (fun b => b < w.heap.size) W7 (.slice ma x.length mc) (u8s x)) := hid (SM.out.keep hk (fun _ _ _ h => h))
      have SL' : Hd (Sgs (fun b => W1.heap.size ≤ b) W7 (.slice a7 n c7) A) := hid (SL.out.keep hk (fun _ _ _ h => h))
      have HP' : Hd (PartR (fun b => (b = w.heap.size) ∨ W4.heap.size ≤ b) W7 (w.heap.size) M) := hid (HP.out.keep hk (fun _ _ _ h => h))
      have SB' : Hd (Sl (fun _ => True) W7 (.slice ba x.length bc) (u8s x)) := hid (SB.out.keep hk (fun _ _ _ h => h))
      clear HN H1 HS HO SM SL HP SB
      have HN := HN'
      clear HN'
      have H1 := H1'
      clear H1'
      have HS := HS'
      clear HS'
      have HO := HO'
      clear HO'
      have SM := SM'
      clear SM'
      have SL := SL'
      clear SL'
      have HP := HP'
      clear HP'
      have SB := SB'
      clear SB'
      have HK' : Hd (Keeps (fun _ => False) w W7) := hid (HK.out.trans hk)
      clear HK
      have HK := HK'
      clear HK'
      have z_W7 := hk.size
      clear hk
      go_wp2_with fail
      refine (lives_any _ HN.out).mono ?_
      rintro e W8 ⟨rfl, hk⟩
      have HN' : Hd (NibF W8) := hid (HN.out.keep hk (fun _ _ _ h => h))
      have H1' : Hd (Sl (fun b => b < w.heap.size) W8 v1 (u8s l1)) := hid (H1.out.keep hk (fun _ _ _ h => h))
      have HS' : Hd (Sl (fun b => b < w.heap.size) W8 vs (i64s sizes)) := hid (HS.out.keep hk (fun _ _ _ h => h))
      have HO' : Hd (Sl (fun b => b < w.heap.size) W8 vo (i64s order)) := hid (HO.out.keep hk (fun _ _ _ h => h))
      have SM' : Hd (Sl (fun b => b < w.heap.size) W8 (.slice ma x.length mc) (u8s x)) := hid (SM.out.keep hk (fun _ _ _ h => h))
      have SL' : Hd (Sgs (fun b => W1.heap.size ≤ b) W8 (.slice a7 n c7) A) := hid (SL.out.keep hk (fun _ _ _ h => h))
      have HP' : Hd (PartR (fun b => (b = w.heap.size) ∨ W4.heap.size ≤ b) W8 (w.heap.size) M) := hid (HP.out.keep hk (fun _ _ _ h => h))
      have SB' : Hd (Sl (fun _ => True) W8 (.slice ba x.length bc) (u8s x)) := hid (SB.out.keep hk (fun _ _ _ h => h))
      clear HN H1 HS HO SM SL HP SB
      have HN := HN'
      clear HN'
      have H1 := H1'
      clear H1'
      have HS := HS'
      clear HS'
      have HO := HO'
      clear HO'
      have SM := SM'
      clear SM'
      have SL := SL'
      clear SL'
      have HP := HP'
      clear HP'
      have SB := SB'
      clear SB'
      have HK' : Hd (Keeps (fun _ => False) w W8) := hid (HK.out.trans hk)
      clear HK
      have HK := HK'
      clear HK'
      have z_W8 := hk.size
      clear hk
      go_wp2
      go_ret
      exact ⟨rfl, HK.out⟩
end Go.Proofs.YtgeicbjlichdgaaDoor
