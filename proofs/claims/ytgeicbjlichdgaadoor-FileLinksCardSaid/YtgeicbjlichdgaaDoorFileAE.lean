/- File: FileLinks walked. -/
import Derived.Test.YtgeicbjlichdgaaDoorFileX
import Derived.Test.YtgeicbjlichdgaaDoorFileU
import Derived.Test.YtgeicbjlichdgaaDoorFileAD
import Derived.Test.YtgeicbjlichdgaaDoorOpen
namespace Go.Proofs.YtgeicbjlichdgaaDoor
open Go.RowKit
attribute [local go_sem ↓] Go.wp_at_zero Go.wp_at_succ
def u32s (l : List Nat) : List Value := l.map fun (n : Nat) => Value.int .u32 n
@[simp] theorem u32s_length (l : List Nat) : (u32s l).length = l.length := by simp [u32s]
theorem pk_of {id : Int} {x : List Nat} {s : Seg} (hid : -9223372036854775808 ≤ id ∧ id ≤ 9223372036854775807) (hx : x.length ≤ 65536) (hb : ∀ c ∈ x, c < 256) (h : OfF id x s) : PkOk s where
  r := by
    intro n hn
    have h1 := h.f; have h2 := h.o; have h3 := h.t; have h4 := h.e
    have h5 : s.s < 4294967296 := by rw [h.s]; exact Cr.crc_lt hb
    simp at hn
    rcases hn with rfl | rfl | rfl | rfl <;> omega
  s := by rw [h.s]; exact Cr.crc_lt hb
  d := fun c hc => by rw [h.d] at hc; exact hb c (List.mem_of_mem_drop (List.mem_of_mem_take hc))
  n := h.n
theorem flip_same {l y : List Nat} {q p : Nat} (hl : ∀ c ∈ l, c < 256) (hy : ∀ c ∈ y, c < 256) (hlen : y.length = l.length) (hn : Cr.num y = Cr.num l ^^^ q * 2 ^ p) (h0 : q = 0) : y = l :=
  Cr.num_inj hy hl hlen (by rw [hn, h0, Nat.zero_mul, Nat.xor_zero])
theorem flip_bad {l y : List Nat} {q p : Nat} (hl : ∀ c ∈ l, c < 256) (hy : ∀ c ∈ y, c < 256) (hlen : y.length = (Cr.seal_ l).length) (hq : q < 4294967296) (hp : p ≤ 8 * (Cr.seal_ l).length) (hn : Cr.num y = Cr.num (Cr.seal_ l) ^^^ q * 2 ^ p) (h0 : q ≠ 0) : (Cr.opened y).2 = 8 := by
  have := Cr.opened_burst hl hy (by rw [hlen, Cr.seal_len]) p q hq (by rw [← Cr.seal_len]; exact hp) hn
  rwa [if_neg h0] at this
theorem putSt_ext {Z : Nat → Prop} {W w w' : World} {p : Nat} {M : Pm} (h : PutSt Z W p M w) (hk : Keeps (fun _ => False) w w') : PutSt Z W p M w' := ⟨h.1.keep hk (fun _ _ _ h => h), h.2.trans (hk.mono (fun _ _ h => h.elim))⟩
set_option maxRecDepth 100000 in set_option maxHeartbeats 1000000 in
theorem links_any (v1 vp vb : Value) (l1 : List Nat) (places : List Int) (bts : List Nat) (id n0 : Int) (w : World) (hN : Cr.Nib w) (h1 : Sl (fun b => b < w.heap.size) w v1 (u8s l1)) (hl1 : ∀ c ∈ l1, c < 256) (hid0 : -9223372036854775808 ≤ id ∧ id ≤ 9223372036854775807) (hn0 : -9223372036854775808 ≤ n0 ∧ n0 ≤ 9223372036854775807)
    (hp : Sl (fun b => b < w.heap.size) w vp (i64s places)) (hpr : I64s places) (hb : Sl (fun b => b < w.heap.size) w vb (u32s bts)) (hbr : ∀ n ∈ bts, n < 4294967296) :
    Calls Tryd.prog 11 #[.int .i64 id, v1, .int .i64 n0, vp, vb] w fun e w' => e = .returned (.bool true) ∧ Keeps (fun _ => False) w w' := by
  have HN0 := hid hn0; have HID := hid hid0
  obtain ⟨pa, pc, rfl, pq1, pq2, -⟩ := hp.ints
  obtain ⟨ba, bc, e, bq1, bq2, -⟩ := hb.form
  subst e
  rw [u32s_length] at bq1
  unfold maxLen at pq2 bq2
  obtain ⟨np, hnp⟩ : ∃ np, places.length = np := ⟨_, rfl⟩
  obtain ⟨nb, hnb⟩ : ∃ nb, bts.length = nb := ⟨_, rfl⟩
  have HPV : Hd (Row (fun b => b < w.heap.size) w 1 (.slice pa np pc) np (i64s places)) := hid (by have := sl_row hp (i64s_length places); rw [hnp] at this; exact this)
  have HBV : Hd (Row (fun b => b < w.heap.size) w 1 (.slice ba nb bc) nb (u32s bts)) := hid (by have := sl_row hb (u32s_length bts); rw [u32s_length, hnb] at this; exact this)
  have HNP := hid hnp; have HNB := hid hnb
  have HPR := hid hpr; have HBR := hid hbr
  rw [u32s_length]
  rw [hnp] at pq1 ⊢
  rw [hnb] at bq1 ⊢
  clear hn0 hid0 hp hpr hb hbr hnp hnb
  have HN : Hd (NibF w) := hid hN
  have hpos := HN.out.pos
  have H1 := hid h1
  obtain ⟨x, hx⟩ : ∃ x, l1.take 700 = x := ⟨_, rfl⟩
  have HFB : Hd (∀ c ∈ x, c < 256) := hid (by rw [← hx]; exact fun c hc => hl1 c (List.mem_of_mem_take hc))
  have hxl : x.length ≤ 700 := by rw [← hx, List.length_take]; omega
  have HFE := hid hx
  clear hN h1 hl1 hx
  go_enter Tryd.func11, Tryd.ntmps11
  go_wp2_with fail
  refine (most_any _ _ l1 _ H1.out).mono ?_
  rw [HFE.out]
  rintro e wx ⟨ma, mc, rfl, hm, rfl⟩
  have SM := hid hm; clear hm
  clear H1
  go_wp2_with fail
  refine (NewPart_any id _).mono ?_
  rintro e W1 ⟨rfl, hp, hk⟩
  have HP := hid hp
  clear hp
  have HN' : Hd (NibF W1) := hid (HN.out.keep hk (fun _ _ _ h => h))
  have HPV' : Hd (Row (fun b => b < w.heap.size) W1 1 (.slice pa np pc) np (i64s places)) := hid (HPV.out.keep hk (fun _ _ _ h => h))
  have HBV' : Hd (Row (fun b => b < w.heap.size) W1 1 (.slice ba nb bc) nb (u32s bts)) := hid (HBV.out.keep hk (fun _ _ _ h => h))
  have SM' : Hd (Sl (fun b => b < w.heap.size) W1 (.slice ma x.length mc) (u8s x)) := hid (SM.out.keep hk (fun _ _ _ h => h))
  clear HN HPV HBV SM
  have HN := HN'
  clear HN'
  have HPV := HPV'
  clear HPV'
  have HBV := HBV'
  clear HBV'
  have SM := SM'
  clear SM'
  have HK : Hd (Keeps (fun _ => False) w W1) := hid hk
  have z_W1 := hk.size
  clear hk
  have lt_p : w.heap.size < W1.heap.size := by obtain ⟨_, _, _, _, hb, _⟩ := HP.out; exact blk_lt hb
  go_wp2_with fail
  refine (size_any n0 _ HN0.out.1 HN0.out.2).mono ?_
  rintro e wx ⟨rfl, rfl⟩
  have HSLz : Hd (1 + around n0 256 = sizeL n0) := hid rfl
  have HZBz := hid (sizeL_b n0)
  rw [HSLz.out]
  generalize sizeL n0 = z at *
  clear HSLz
  obtain ⟨R, hR⟩ : ∃ R, cutL id x z = R := ⟨_, rfl⟩
  have HOR2 : Hd (∀ s ∈ R, OfF id x s) := hid (by rw [← hR]; exact cut_of)
  have hF0 : fitsL x z = 0 := fits_ok HZBz.out (by omega)
  have hRl : R.length ≤ x.length + 1 := by rw [← hR]; exact cutL_len _ _ _
  have HRE := hid hR; have HF0 := hid hF0
  clear hR hF0
  go_wp2_with fail
  refine (Cut_any _ x id z _ HN.out (SM.out.mono (fun b h _ => h)) HFB.out (by omega)).mono ?_
  rw [HRE.out, HF0.out]
  rintro e W2 ⟨ra, rn, rc, rfl, rfl, hrp, hk⟩
  have SL := hid (hrp.sgs.mono (K' := fun b => W1.heap.size ≤ b) (fun b _ h => by rcases h with h | h <;> exact h))
  clear hrp
  have HN' : Hd (NibF W2) := hid (HN.out.keep hk (fun _ _ _ h => h))
  have HPV' : Hd (Row (fun b => b < w.heap.size) W2 1 (.slice pa np pc) np (i64s places)) := hid (HPV.out.keep hk (fun _ _ _ h => h))
  have HBV' : Hd (Row (fun b => b < w.heap.size) W2 1 (.slice ba nb bc) nb (u32s bts)) := hid (HBV.out.keep hk (fun _ _ _ h => h))
  have SM' : Hd (Sl (fun b => b < w.heap.size) W2 (.slice ma x.length mc) (u8s x)) := hid (SM.out.keep hk (fun _ _ _ h => h))
  have HP' : Hd (PartR (fun b => b = w.heap.size) W2 w.heap.size (newM id)) := hid (HP.out.keep hk (fun _ _ _ h => h))
  clear HN HPV HBV SM HP
  have HN := HN'
  clear HN'
  have HPV := HPV'
  clear HPV'
  have HBV := HBV'
  clear HBV'
  have SM := SM'
  clear SM'
  have HP := HP'
  clear HP'
  have HK' : Hd (Keeps (fun _ => False) w W2) := hid (HK.out.trans hk)
  clear HK
  have HK := HK'
  clear HK'
  have z_W2 := hk.size
  clear hk
  obtain ⟨n, hn⟩ : ∃ n, R.length = n := ⟨_, rfl⟩
  rw [hn] at SL hRl ⊢
  have HNL := hid hn
  clear hn
  have HF0' : Hd (Fit id x (newM id)) := hid (newM_fit id x)
  go_wp2_with fail
  go_loopw [15] (fun iv wr => ∃ (i : Nat) (M : Pm), iv = .int .i64 i ∧ i ≤ n ∧ Hd (Fit id x M) ∧ Hd (PutSt (fun b => b = w.heap.size) W2 (w.heap.size) M wr)) (fun iv _ => n - (intOf iv).toNat)
  case atStart => exact ⟨0, newM id, rfl, Nat.zero_le _, HF0', hid (putSt_start HP.out)⟩
  case round =>
    have HN00 := HN
    have SM00 := SM
    have HPV00 := HPV
    have HBV00 := HBV
    have SL00 := SL
    obtain ⟨V, hV⟩ : ∃ V, V = wr := ⟨_, rfl⟩
    subst hV
    obtain ⟨i, M, rfl, hin, HFM, PS⟩ := hrel
    have kV := PS.out.2
    have HKV : Hd (Keeps (fun _ => False) w V) := hid (HK.out.trans' kV (fun b hb h => by omega))
    have zV := kV.size
    clear HN SM HPV HBV SL HP HK
    have HK := HKV
    clear HKV
    have HN : Hd (NibF V) := hid (HN00.out.keep kV (fun b h1 h2 h3 => by omega))
    have SM : Hd (Sl (fun b => b < w.heap.size) V (.slice ma x.length mc) (u8s x)) := hid (SM00.out.keep kV (fun b h1 h2 h3 => by omega))
    have HPV : Hd (Row (fun b => b < w.heap.size) V 1 (.slice pa np pc) np (i64s places)) := hid (HPV00.out.keep kV (fun b h1 h2 h3 => by omega))
    have HBV : Hd (Row (fun b => b < w.heap.size) V 1 (.slice ba nb bc) nb (u32s bts)) := hid (HBV00.out.keep kV (fun b h1 h2 h3 => by omega))
    have SL : Hd (Sgs (fun b => W1.heap.size ≤ b) V (.slice ra n rc) R) := hid (SL00.out.keep kV (fun b h1 h2 h3 => by omega))
    have HPn : Hd (PartR (fun b => (b = w.heap.size ∨ W2.heap.size ≤ b) ∧ b < V.heap.size) V (w.heap.size) M) := hid (PS.out.1.mono (fun b hb h => ⟨h, hb⟩))
    have KZ : Hd (Keeps (fun b => b = w.heap.size) W2 V) := hid kV
    clear kV PS
    have HP := HPn
    clear HPn
    by_cases hi : i < n
    · have k1 : (i : Int) < n := by omega
      have k2 : (0 : Int) ≤ i := by omega
      obtain ⟨y, hy⟩ : ∃ y, R[i]? = some y := ⟨R[i]'(by rw [HNL.out]; exact hi), List.getElem?_eq_getElem _⟩
      obtain ⟨bx, ox, rfl, hbx, hbx2, hcx⟩ := sgs_cells SL.out (by rw [HNL.out]; omega)
      obtain ⟨x0, x1, x2, x3, ad, cd, x4, SX⟩ := hcx i y hy
      have HSX := hid SX
      have HOY0 := HOR2.out y (List.mem_of_getElem? hy)
      have HOY := hid HOY0
      have HPO := hid (pk_of HID.out (show x.length ≤ 65536 by omega) HFB.out HOY0)
      clear hcx SX hy HOY0
      go_wp2_with fail
      refine (packed_any y ad cd _ HN.out (HSX.out.mono (fun b hb _ => hb)) HPO.out).mono ?_
      rintro e W3 ⟨a4, n4, c4, rfl, hn4, ho4, hk⟩
      have SD : Hd (Own (fun b => V.heap.size ≤ b) _ 5 1 (.slice a4 n4 c4) n4 (u8s (Cr.seal_ (pk y)))) := hid ho4
      have HN4 : Hd (n4 = (Cr.seal_ (pk y)).length) := hid (by rw [hn4, u8s_length])
      clear hn4 ho4 x0 x1 x2 x3 x4
      have KZ' : Hd (Keeps (fun b => b = w.heap.size) W2 W3) := hid (KZ.out.trans (hk.mono (fun _ _ h => h.elim)))
      clear KZ
      have KZ := KZ'
      clear KZ'
      have HN' : Hd (NibF W3) := hid (HN.out.keep hk (fun _ _ _ h => h))
      have HPV' : Hd (Row (fun b => b < w.heap.size) W3 1 (.slice pa np pc) np (i64s places)) := hid (HPV.out.keep hk (fun _ _ _ h => h))
      have HBV' : Hd (Row (fun b => b < w.heap.size) W3 1 (.slice ba nb bc) nb (u32s bts)) := hid (HBV.out.keep hk (fun _ _ _ h => h))
      have SM' : Hd (Sl (fun b => b < w.heap.size) W3 (.slice ma x.length mc) (u8s x)) := hid (SM.out.keep hk (fun _ _ _ h => h))
      have HP' : Hd (PartR (fun b => (b = w.heap.size ∨ W2.heap.size ≤ b) ∧ b < V.heap.size) W3 (w.heap.size) M) := hid (HP.out.keep hk (fun _ _ _ h => h))
      have SL' : Hd (Sgs (fun b => W1.heap.size ≤ b) W3 (.slice (some ⟨bx, ox, none⟩) n rc) R) := hid (SL.out.keep hk (fun _ _ _ h => h))
      clear HN HPV HBV SM HP SL
      have HN := HN'
      clear HN'
      have HPV := HPV'
      clear HPV'
      have HBV := HBV'
      clear HBV'
      have SM := SM'
      clear SM'
      have HP := HP'
      clear HP'
      have SL := SL'
      clear SL'
      have HK' : Hd (Keeps (fun _ => False) w W3) := hid (HK.out.trans hk)
      clear HK
      have HK := HK'
      clear HK'
      have z_W3 := hk.size
      clear hk
      have HPT := hid (pk_lt HPO.out); have HPL := hid (pk_len HPO.out)
      have hn4b : n4 ≤ 1004 := by rw [HN4.out, Cr.seal_len]; have := HPL.out; omega
      by_cases hfl : i < np ∧ i < nb
      · obtain ⟨hf1, hf2⟩ := hfl
        have i1 : (i : Int) < np := by omega
        have i2 : (i : Int) < nb := by omega
        obtain ⟨pb, po, epa⟩ := row_some HPV.out (by omega)
        subst epa
        obtain ⟨bb, bo, eba⟩ := row_some HBV.out (by omega)
        subst eba
        obtain ⟨-, -, pcell⟩ := rowc1 HPV.out (by omega)
        have pc1 := pcell i hf1
        obtain ⟨-, -, bcell⟩ := rowc1 HBV.out (by omega)
        have bc1 := bcell i hf2
        clear pcell bcell
        obtain ⟨at_, hat⟩ : ∃ at_, places[i]? = some at_ := ⟨places[i]'(by rw [HNP.out]; exact hf1), List.getElem?_eq_getElem _⟩
        obtain ⟨bt, hbt⟩ : ∃ bt, bts[i]? = some bt := ⟨bts[i]'(by rw [HNB.out]; exact hf2), List.getElem?_eq_getElem _⟩
        rw [show (i64s places).getD i undef = .int .i64 at_ by unfold i64s; rw [List.getD, List.getElem?_map, hat]; rfl] at pc1
        rw [show (u32s bts).getD i undef = .int .u32 (bt : Int) by unfold u32s; rw [List.getD, List.getElem?_map, hbt]; rfl] at bc1
        have HAT := hid (HPR.out at_ (List.mem_of_getElem? hat)); have HBT := hid (HBR.out bt (List.mem_of_getElem? hbt))
        clear hat hbt
        go_upto_region 12 with fail
        have HFL : Hd (∀ X, Keeps (fun _ => False) W3 X → Calls Tryd.prog 28 #[.slice a4 n4 c4, .int .i64 at_, .int .u32 (bt : Int)] X fun e w' => FlipR (fun b => X.heap.size ≤ b) X (Cr.seal_ (pk y)) e w') := hid (fun X hx => Flip_any _ _ _ at_ bt X (row_sl (SD.out.keep hx (fun _ _ _ h => h)).row (by rw [u8s_length, HN4.out])) (Cr.seal_lt HPT.out) (by rw [← HN4.out]; omega) HAT.out.1 HAT.out.2 HBT.out)
        go_cut [16, 17] from 66 to 78 (fun u16 u17 wx => ∃ (yl : List Nat) (qq pp : Nat) (fa : Option Addr) (fc : Nat), u16 = .slice fa yl.length fc ∧ u17 = .bool (!decide (qq = 0)) ∧ Hd (yl.length = (Cr.seal_ (pk y)).length ∧ (∀ c ∈ yl, c < 256) ∧ qq < 4294967296 ∧ pp ≤ 8 * (Cr.seal_ (pk y)).length ∧ Cr.num yl = Cr.num (Cr.seal_ (pk y)) ^^^ qq * 2 ^ pp) ∧ Hd (Own (fun b => W3.heap.size ≤ b) wx 5 1 (.slice fa yl.length fc) yl.length (u8s yl)) ∧ Hd (Keeps (fun _ => False) W3 wx))
        case first =>
          have pc2 : W3.drew.cell? ⟨pb, po + i, none⟩ = some (.int .i64 at_) := pc1
          have bc2 : W3.drew.cell? ⟨bb, bo + i, none⟩ = some (.int .u32 (bt : Int)) := bc1
          go_region_with (go_at_call 28; (refine (HFL.out _ ((Keeps.refl _ _).drew)).mono ?_); rintro e wy ⟨yl, qq, pp, fa, fc, rfl, f1, f2, f3, f4, f5, fo, hk⟩; have HFF := hid (And.intro f1 (And.intro f2 (And.intro f3 (And.intro f4 f5)))); have HFO : Hd (Own (fun b => W3.heap.size ≤ b) wy 5 1 (.slice fa yl.length fc) yl.length (u8s yl)) := hid fo; have HKY : Hd (Keeps (fun _ => False) W3 wy) := hid ((Keeps.drew (Keeps.refl (fun _ => False) W3)).trans hk); clear f1 f2 f3 f4 f5 fo hk)
          all_goals
            go_wp2_with fail
            go_meet
            exact ⟨_, _, _, _, _, rfl, rfl, HFF, by first | exact HFO | exact hid (HFO.out.keep (S := fun _ => False) (by repeat (first | (with_reducible exact Keeps.refl _ _) | (with_reducible apply Keeps.drewN) | (with_reducible apply Keeps.drew) | (with_reducible apply Keeps.alloc))) (fun _ _ _ h => h)), by first | exact HKY | exact hid (HKY.out.trans (by repeat (first | (with_reducible exact Keeps.refl _ _) | (with_reducible apply Keeps.drewN) | (with_reducible apply Keeps.drew) | (with_reducible apply Keeps.alloc))))⟩
        case rest =>
          obtain ⟨yl, qq, pp, fa, fc, rfl, rfl, HFF, HFO, hk⟩ := hcut
          replace hk := hk.out
          clear HFL
          clear pc1 bc1
          generalize wc = W4 at *
          have KZ' : Hd (Keeps (fun b => b = w.heap.size) W2 W4) := hid (KZ.out.trans (hk.mono (fun _ _ h => h.elim)))
          clear KZ
          have KZ := KZ'
          clear KZ'
          have HN' : Hd (NibF W4) := hid (HN.out.keep hk (fun _ _ _ h => h))
          have HPV' : Hd (Row (fun b => b < w.heap.size) W4 1 (.slice (some ⟨pb, po, none⟩) np pc) np (i64s places)) := hid (HPV.out.keep hk (fun _ _ _ h => h))
          have HBV' : Hd (Row (fun b => b < w.heap.size) W4 1 (.slice (some ⟨bb, bo, none⟩) nb bc) nb (u32s bts)) := hid (HBV.out.keep hk (fun _ _ _ h => h))
          have SM' : Hd (Sl (fun b => b < w.heap.size) W4 (.slice ma x.length mc) (u8s x)) := hid (SM.out.keep hk (fun _ _ _ h => h))
          have HP' : Hd (PartR (fun b => (b = w.heap.size ∨ W2.heap.size ≤ b) ∧ b < V.heap.size) W4 (w.heap.size) M) := hid (HP.out.keep hk (fun _ _ _ h => h))
          have SL' : Hd (Sgs (fun b => W1.heap.size ≤ b) W4 (.slice (some ⟨bx, ox, none⟩) n rc) R) := hid (SL.out.keep hk (fun _ _ _ h => h))
          have SD' : Hd (Own (fun b => V.heap.size ≤ b) W4 5 1 (.slice a4 n4 c4) n4 (u8s (Cr.seal_ (pk y)))) := hid (SD.out.keep hk (fun _ _ _ h => h))
          clear HN HPV HBV SM HP SL SD
          have HN := HN'
          clear HN'
          have HPV := HPV'
          clear HPV'
          have HBV := HBV'
          clear HBV'
          have SM := SM'
          clear SM'
          have HP := HP'
          clear HP'
          have SL := SL'
          clear SL'
          have SD := SD'
          clear SD'
          have HK' : Hd (Keeps (fun _ => False) w W4) := hid (HK.out.trans hk)
          clear HK
          have HK := HK'
          clear HK'
          have z_W4 := hk.size
          clear hk
          by_cases hq0 : qq = 0
          · have hyl := flip_same (Cr.seal_lt HPT.out) HFF.out.2.1 HFF.out.1 HFF.out.2.2.2.2 hq0
            have dq : decide (qq = 0) = true := decide_eq_true hq0
            have HYL := hid hyl
            clear hyl hq0
            go_wp2_with fail
            refine (unpacked_ok _ _ y _ HN.out (by have h := row_sl HFO.out.row (by rw [u8s_length]); rw [← HYL.out]; exact h) HPO.out).mono ?_
            rintro e W5 ⟨au, cu, rfl, huo, hk⟩
            have SU : Hd (Own (fun b => V.heap.size ≤ b) _ 5 1 (.slice au y.d.length cu) y.d.length (u8s y.d)) := hid (huo.mono (fun b _ h => by omega))
            clear huo
            have KZ' : Hd (Keeps (fun b => b = w.heap.size) W2 W5) := hid (KZ.out.trans (hk.mono (fun _ _ h => h.elim)))
            clear KZ
            have KZ := KZ'
            clear KZ'
            have HN' : Hd (NibF W5) := hid (HN.out.keep hk (fun _ _ _ h => h))
            have HPV' : Hd (Row (fun b => b < w.heap.size) W5 1 (.slice (some ⟨pb, po, none⟩) np pc) np (i64s places)) := hid (HPV.out.keep hk (fun _ _ _ h => h))
            have HBV' : Hd (Row (fun b => b < w.heap.size) W5 1 (.slice (some ⟨bb, bo, none⟩) nb bc) nb (u32s bts)) := hid (HBV.out.keep hk (fun _ _ _ h => h))
            have SM' : Hd (Sl (fun b => b < w.heap.size) W5 (.slice ma x.length mc) (u8s x)) := hid (SM.out.keep hk (fun _ _ _ h => h))
            have HP' : Hd (PartR (fun b => (b = w.heap.size ∨ W2.heap.size ≤ b) ∧ b < V.heap.size) W5 (w.heap.size) M) := hid (HP.out.keep hk (fun _ _ _ h => h))
            have SL' : Hd (Sgs (fun b => W1.heap.size ≤ b) W5 (.slice (some ⟨bx, ox, none⟩) n rc) R) := hid (SL.out.keep hk (fun _ _ _ h => h))
            have SD' : Hd (Own (fun b => V.heap.size ≤ b) W5 5 1 (.slice a4 n4 c4) n4 (u8s (Cr.seal_ (pk y)))) := hid (SD.out.keep hk (fun _ _ _ h => h))
            have HFO' : Hd (Own (fun b => W3.heap.size ≤ b) W5 5 1 (.slice fa yl.length fc) yl.length (u8s yl)) := hid (HFO.out.keep hk (fun _ _ _ h => h))
            clear HN HPV HBV SM HP SL SD HFO
            have HN := HN'
            clear HN'
            have HPV := HPV'
            clear HPV'
            have HBV := HBV'
            clear HBV'
            have SM := SM'
            clear SM'
            have HP := HP'
            clear HP'
            have SL := SL'
            clear SL'
            have SD := SD'
            clear SD'
            have HFO := HFO'
            clear HFO'
            have HK' : Hd (Keeps (fun _ => False) w W5) := hid (HK.out.trans hk)
            clear HK
            have HK := HK'
            clear HK'
            have z_W5 := hk.size
            clear hk
            go_upto_region 14 with fail
            have KZo := KZ
            clear KZ
            generalize hW : World.alloc W5 _ = W6
            have KS : Hd (Keeps (fun _ => False) W5 W6) := hid (by rw [← hW]; exact (Keeps.alloc (Keeps.refl (fun _ => False) W5) _))
            have HN' : Hd (NibF W6) := hid (HN.out.keep KS.out (fun _ _ _ h => h))
            have HPV' : Hd (Row (fun b => b < w.heap.size) W6 1 (.slice (some ⟨pb, po, none⟩) np pc) np (i64s places)) := hid (HPV.out.keep KS.out (fun _ _ _ h => h))
            have HBV' : Hd (Row (fun b => b < w.heap.size) W6 1 (.slice (some ⟨bb, bo, none⟩) nb bc) nb (u32s bts)) := hid (HBV.out.keep KS.out (fun _ _ _ h => h))
            have SM' : Hd (Sl (fun b => b < w.heap.size) W6 (.slice ma x.length mc) (u8s x)) := hid (SM.out.keep KS.out (fun _ _ _ h => h))
            have HP' : Hd (PartR (fun b => (b = w.heap.size ∨ W2.heap.size ≤ b) ∧ b < V.heap.size) W6 (w.heap.size) M) := hid (HP.out.keep KS.out (fun _ _ _ h => h))
            have SL' : Hd (Sgs (fun b => W1.heap.size ≤ b) W6 (.slice (some ⟨bx, ox, none⟩) n rc) R) := hid (SL.out.keep KS.out (fun _ _ _ h => h))
            have SD' : Hd (Own (fun b => V.heap.size ≤ b) W6 5 1 (.slice a4 n4 c4) n4 (u8s (Cr.seal_ (pk y)))) := hid (SD.out.keep KS.out (fun _ _ _ h => h))
            have HFO' : Hd (Own (fun b => W3.heap.size ≤ b) W6 5 1 (.slice fa yl.length fc) yl.length (u8s yl)) := hid (HFO.out.keep KS.out (fun _ _ _ h => h))
            have SU' : Hd (Own (fun b => V.heap.size ≤ b) W6 5 1 (.slice au y.d.length cu) y.d.length (u8s y.d)) := hid (SU.out.keep KS.out (fun _ _ _ h => h))
            have XKB : Hd (Keeps (fun _ => False) W5 W6) := hid KS.out
            have BS : Hd (Blk W6 W5.heap.size #[(.int .i64 y.f), (.int .i64 y.o), (.int .i64 y.t), (.int .u32 (y.s : Int)), (.slice au y.d.length cu)] 44) := hid (by rw [← hW]; exact (blk_new _ _ _))
            clear HN HPV HBV SM HP SL SD HFO SU
            have HN := HN'
            clear HN'
            have HPV := HPV'
            clear HPV'
            have HBV := HBV'
            clear HBV'
            have SM := SM'
            clear SM'
            have HP := HP'
            clear HP'
            have SL := SL'
            clear SL'
            have SD := SD'
            clear SD'
            have HFO := HFO'
            clear HFO'
            have SU := SU'
            clear SU'
            have HK' : Hd (Keeps (fun _ => False) w W6) := hid (HK.out.trans KS.out)
            clear HK
            have HK := HK'
            clear HK'
            have z_W6 : W5.heap.size + 1 ≤ W6.heap.size := by rw [← hW]; simp
            clear hW KS
            have KZ : Hd (Keeps (fun b => b = w.heap.size) W2 W6) := hid (KZo.out.trans (XKB.out.mono (fun _ _ h => h.elim)))
            clear KZo XKB
            obtain ⟨e0, ef, -⟩ := put_of (show x.length ≤ 65536 by omega) HFB.out HFM.out HOY.out
            have HE0 := hid e0; have HF2 := hid ef
            clear e0 ef
            have HOK := hid HFM.out.ok
            have o_BS_0 : W6.cell? ⟨W5.heap.size, 0, none⟩ = some ((.int .i64 y.f)) := blk_cell BS.out 0
            have o_BS_1 : W6.cell? ⟨W5.heap.size, 1, none⟩ = some ((.int .i64 y.o)) := blk_cell BS.out 1
            have o_BS_2 : W6.cell? ⟨W5.heap.size, 2, none⟩ = some ((.int .i64 y.t)) := blk_cell BS.out 2
            have o_BS_3 : W6.cell? ⟨W5.heap.size, 3, none⟩ = some ((.int .u32 (y.s : Int))) := blk_cell BS.out 3
            have o_BS_4 : W6.cell? ⟨W5.heap.size, 4, none⟩ = some ((.slice au y.d.length cu)) := blk_cell BS.out 4
            go_wp2_with fail
            refine (Put_any _ _ M y au cu _ HP.out HOK.out ((row_sl SU.out.row (by rw [u8s_length])).mono (fun b hb h => ⟨fun h3 => by have := h3.2; omega, hb⟩)) HPO.out.d HPO.out.s).mono ?_
            rintro e w2 ⟨rfl, hp5, hk5⟩
            rw [HE0.out]
            have HPS : Hd (PutSt (fun b => b = w.heap.size) W2 (w.heap.size) (putM M y) w2) := hid ⟨hp5.mono (fun b _ h => by rcases h with h | h; exact h.1; exact .inr (by omega)), KZ.out.trans' hk5 (fun b hb h => by rcases h.1 with h | h; exact h; omega)⟩
            clear hp5 hk5 KZ HP
            go_wp2_with fail
            go_roundw
            case rel => exact ⟨i + 1, _, by go_num, by omega, HF2, HPS⟩
            case measure => simp [intOf]; omega
          · have hbad := flip_bad HPT.out HFF.out.2.1 HFF.out.1 HFF.out.2.2.1 HFF.out.2.2.2.1 HFF.out.2.2.2.2 hq0
            have dq : decide (qq = 0) = false := decide_eq_false hq0
            have HBAD := hid hbad
            clear hbad hq0
            go_wp2_with fail
            refine (unpacked_bad _ _ yl _ HN.out (row_sl HFO.out.row (by rw [u8s_length])) HFF.out.2.1 (by rw [HFF.out.1, Cr.seal_len]; have := HPL.out; omega) HBAD.out).mono ?_
            rintro e W5 ⟨rfl, hk⟩
            have KZ' : Hd (Keeps (fun b => b = w.heap.size) W2 W5) := hid (KZ.out.trans (hk.mono (fun _ _ h => h.elim)))
            clear KZ
            have KZ := KZ'
            clear KZ'
            have HN' : Hd (NibF W5) := hid (HN.out.keep hk (fun _ _ _ h => h))
            have HPV' : Hd (Row (fun b => b < w.heap.size) W5 1 (.slice (some ⟨pb, po, none⟩) np pc) np (i64s places)) := hid (HPV.out.keep hk (fun _ _ _ h => h))
            have HBV' : Hd (Row (fun b => b < w.heap.size) W5 1 (.slice (some ⟨bb, bo, none⟩) nb bc) nb (u32s bts)) := hid (HBV.out.keep hk (fun _ _ _ h => h))
            have SM' : Hd (Sl (fun b => b < w.heap.size) W5 (.slice ma x.length mc) (u8s x)) := hid (SM.out.keep hk (fun _ _ _ h => h))
            have HP' : Hd (PartR (fun b => (b = w.heap.size ∨ W2.heap.size ≤ b) ∧ b < V.heap.size) W5 (w.heap.size) M) := hid (HP.out.keep hk (fun _ _ _ h => h))
            have SL' : Hd (Sgs (fun b => W1.heap.size ≤ b) W5 (.slice (some ⟨bx, ox, none⟩) n rc) R) := hid (SL.out.keep hk (fun _ _ _ h => h))
            have SD' : Hd (Own (fun b => V.heap.size ≤ b) W5 5 1 (.slice a4 n4 c4) n4 (u8s (Cr.seal_ (pk y)))) := hid (SD.out.keep hk (fun _ _ _ h => h))
            have HFO' : Hd (Own (fun b => W3.heap.size ≤ b) W5 5 1 (.slice fa yl.length fc) yl.length (u8s yl)) := hid (HFO.out.keep hk (fun _ _ _ h => h))
            clear HN HPV HBV SM HP SL SD HFO
            have HN := HN'
            clear HN'
            have HPV := HPV'
            clear HPV'
            have HBV := HBV'
            clear HBV'
            have SM := SM'
            clear SM'
            have HP := HP'
            clear HP'
            have SL := SL'
            clear SL'
            have SD := SD'
            clear SD'
            have HFO := HFO'
            clear HFO'
            have HK' : Hd (Keeps (fun _ => False) w W5) := hid (HK.out.trans hk)
            clear HK
            have HK := HK'
            clear HK'
            have z_W5 := hk.size
            clear hk
            have PS0 : PutSt (fun b => b = w.heap.size) W2 (w.heap.size) M W5 := ⟨HP.out.mono (fun b _ h => h.1), KZ.out⟩
            have PS3 := hid (putSt_ext PS0 (keeps_alloc _ W5 (.cells #[.int .i64 0, .int .i64 0, .int .i64 0, .int .u32 0, .slice none 0 0] 44)))
            clear PS0 KZ HP
            go_wp2_with fail
            go_roundw
            case rel => exact ⟨i + 1, M, by go_num, by omega, HFM, PS3⟩
            case measure => simp [intOf]; omega
      · have hfl2 : np ≤ i ∨ (i < np ∧ nb ≤ i) := by omega
        clear hfl
        rcases hfl2 with hfl2 | ⟨hfl2, hfl3⟩
        · have i1 : ¬ ((i : Int) < np) := by omega
          go_wp2_with fail
          refine (unpacked_ok _ _ y _ HN.out (row_sl SD.out.row (by rw [u8s_length, HN4.out])) HPO.out).mono ?_
          rintro e W4 ⟨au, cu, rfl, huo, hk⟩
          have SU : Hd (Own (fun b => V.heap.size ≤ b) _ 5 1 (.slice au y.d.length cu) y.d.length (u8s y.d)) := hid (huo.mono (fun b _ h => by omega))
          clear huo
          have KZ' : Hd (Keeps (fun b => b = w.heap.size) W2 W4) := hid (KZ.out.trans (hk.mono (fun _ _ h => h.elim)))
          clear KZ
          have KZ := KZ'
          clear KZ'
          have HN' : Hd (NibF W4) := hid (HN.out.keep hk (fun _ _ _ h => h))
          have HPV' : Hd (Row (fun b => b < w.heap.size) W4 1 (.slice pa np pc) np (i64s places)) := hid (HPV.out.keep hk (fun _ _ _ h => h))
          have HBV' : Hd (Row (fun b => b < w.heap.size) W4 1 (.slice ba nb bc) nb (u32s bts)) := hid (HBV.out.keep hk (fun _ _ _ h => h))
          have SM' : Hd (Sl (fun b => b < w.heap.size) W4 (.slice ma x.length mc) (u8s x)) := hid (SM.out.keep hk (fun _ _ _ h => h))
          have HP' : Hd (PartR (fun b => (b = w.heap.size ∨ W2.heap.size ≤ b) ∧ b < V.heap.size) W4 (w.heap.size) M) := hid (HP.out.keep hk (fun _ _ _ h => h))
          have SL' : Hd (Sgs (fun b => W1.heap.size ≤ b) W4 (.slice (some ⟨bx, ox, none⟩) n rc) R) := hid (SL.out.keep hk (fun _ _ _ h => h))
          have SD' : Hd (Own (fun b => V.heap.size ≤ b) W4 5 1 (.slice a4 n4 c4) n4 (u8s (Cr.seal_ (pk y)))) := hid (SD.out.keep hk (fun _ _ _ h => h))
          clear HN HPV HBV SM HP SL SD
          have HN := HN'
          clear HN'
          have HPV := HPV'
          clear HPV'
          have HBV := HBV'
          clear HBV'
          have SM := SM'
          clear SM'
          have HP := HP'
          clear HP'
          have SL := SL'
          clear SL'
          have SD := SD'
          clear SD'
          have HK' : Hd (Keeps (fun _ => False) w W4) := hid (HK.out.trans hk)
          clear HK
          have HK := HK'
          clear HK'
          have z_W4 := hk.size
          clear hk
          go_upto_region 14 with fail
          have KZo := KZ
          clear KZ
          generalize hW : World.alloc W4 _ = W5
          have KS : Hd (Keeps (fun _ => False) W4 W5) := hid (by rw [← hW]; exact (Keeps.alloc (Keeps.refl (fun _ => False) W4) _))
          have HN' : Hd (NibF W5) := hid (HN.out.keep KS.out (fun _ _ _ h => h))
          have HPV' : Hd (Row (fun b => b < w.heap.size) W5 1 (.slice pa np pc) np (i64s places)) := hid (HPV.out.keep KS.out (fun _ _ _ h => h))
          have HBV' : Hd (Row (fun b => b < w.heap.size) W5 1 (.slice ba nb bc) nb (u32s bts)) := hid (HBV.out.keep KS.out (fun _ _ _ h => h))
          have SM' : Hd (Sl (fun b => b < w.heap.size) W5 (.slice ma x.length mc) (u8s x)) := hid (SM.out.keep KS.out (fun _ _ _ h => h))
          have HP' : Hd (PartR (fun b => (b = w.heap.size ∨ W2.heap.size ≤ b) ∧ b < V.heap.size) W5 (w.heap.size) M) := hid (HP.out.keep KS.out (fun _ _ _ h => h))
          have SL' : Hd (Sgs (fun b => W1.heap.size ≤ b) W5 (.slice (some ⟨bx, ox, none⟩) n rc) R) := hid (SL.out.keep KS.out (fun _ _ _ h => h))
          have SD' : Hd (Own (fun b => V.heap.size ≤ b) W5 5 1 (.slice a4 n4 c4) n4 (u8s (Cr.seal_ (pk y)))) := hid (SD.out.keep KS.out (fun _ _ _ h => h))
          have SU' : Hd (Own (fun b => V.heap.size ≤ b) W5 5 1 (.slice au y.d.length cu) y.d.length (u8s y.d)) := hid (SU.out.keep KS.out (fun _ _ _ h => h))
          have XKB : Hd (Keeps (fun _ => False) W4 W5) := hid KS.out
          have BS : Hd (Blk W5 W4.heap.size #[(.int .i64 y.f), (.int .i64 y.o), (.int .i64 y.t), (.int .u32 (y.s : Int)), (.slice au y.d.length cu)] 44) := hid (by rw [← hW]; exact (blk_new _ _ _))
          clear HN HPV HBV SM HP SL SD SU
          have HN := HN'
          clear HN'
          have HPV := HPV'
          clear HPV'
          have HBV := HBV'
          clear HBV'
          have SM := SM'
          clear SM'
          have HP := HP'
          clear HP'
          have SL := SL'
          clear SL'
          have SD := SD'
          clear SD'
          have SU := SU'
          clear SU'
          have HK' : Hd (Keeps (fun _ => False) w W5) := hid (HK.out.trans KS.out)
          clear HK
          have HK := HK'
          clear HK'
          have z_W5 : W4.heap.size + 1 ≤ W5.heap.size := by rw [← hW]; simp
          clear hW KS
          have KZ : Hd (Keeps (fun b => b = w.heap.size) W2 W5) := hid (KZo.out.trans (XKB.out.mono (fun _ _ h => h.elim)))
          clear KZo XKB
          obtain ⟨e0, ef, -⟩ := put_of (show x.length ≤ 65536 by omega) HFB.out HFM.out HOY.out
          have HE0 := hid e0; have HF2 := hid ef
          clear e0 ef
          have HOK := hid HFM.out.ok
          have o_BS_0 : W5.cell? ⟨W4.heap.size, 0, none⟩ = some ((.int .i64 y.f)) := blk_cell BS.out 0
          have o_BS_1 : W5.cell? ⟨W4.heap.size, 1, none⟩ = some ((.int .i64 y.o)) := blk_cell BS.out 1
          have o_BS_2 : W5.cell? ⟨W4.heap.size, 2, none⟩ = some ((.int .i64 y.t)) := blk_cell BS.out 2
          have o_BS_3 : W5.cell? ⟨W4.heap.size, 3, none⟩ = some ((.int .u32 (y.s : Int))) := blk_cell BS.out 3
          have o_BS_4 : W5.cell? ⟨W4.heap.size, 4, none⟩ = some ((.slice au y.d.length cu)) := blk_cell BS.out 4
          go_wp2_with fail
          refine (Put_any _ _ M y au cu _ HP.out HOK.out ((row_sl SU.out.row (by rw [u8s_length])).mono (fun b hb h => ⟨fun h3 => by have := h3.2; omega, hb⟩)) HPO.out.d HPO.out.s).mono ?_
          rintro e w2 ⟨rfl, hp5, hk5⟩
          rw [HE0.out]
          have HPS : Hd (PutSt (fun b => b = w.heap.size) W2 (w.heap.size) (putM M y) w2) := hid ⟨hp5.mono (fun b _ h => by rcases h with h | h; exact h.1; exact .inr (by omega)), KZ.out.trans' hk5 (fun b hb h => by rcases h.1 with h | h; exact h; omega)⟩
          clear hp5 hk5 KZ HP
          go_wp2_with fail
          go_roundw
          case rel => exact ⟨i + 1, _, by go_num, by omega, HF2, HPS⟩
          case measure => simp [intOf]; omega
        · have i1 : (i : Int) < np := by omega
          have i2 : ¬ ((i : Int) < nb) := by omega
          go_wp2_with fail
          refine (unpacked_ok _ _ y _ HN.out (row_sl SD.out.row (by rw [u8s_length, HN4.out])) HPO.out).mono ?_
          rintro e W4 ⟨au, cu, rfl, huo, hk⟩
          have SU : Hd (Own (fun b => V.heap.size ≤ b) _ 5 1 (.slice au y.d.length cu) y.d.length (u8s y.d)) := hid (huo.mono (fun b _ h => by omega))
          clear huo
          have KZ' : Hd (Keeps (fun b => b = w.heap.size) W2 W4) := hid (KZ.out.trans (hk.mono (fun _ _ h => h.elim)))
          clear KZ
          have KZ := KZ'
          clear KZ'
          have HN' : Hd (NibF W4) := hid (HN.out.keep hk (fun _ _ _ h => h))
          have HPV' : Hd (Row (fun b => b < w.heap.size) W4 1 (.slice pa np pc) np (i64s places)) := hid (HPV.out.keep hk (fun _ _ _ h => h))
          have HBV' : Hd (Row (fun b => b < w.heap.size) W4 1 (.slice ba nb bc) nb (u32s bts)) := hid (HBV.out.keep hk (fun _ _ _ h => h))
          have SM' : Hd (Sl (fun b => b < w.heap.size) W4 (.slice ma x.length mc) (u8s x)) := hid (SM.out.keep hk (fun _ _ _ h => h))
          have HP' : Hd (PartR (fun b => (b = w.heap.size ∨ W2.heap.size ≤ b) ∧ b < V.heap.size) W4 (w.heap.size) M) := hid (HP.out.keep hk (fun _ _ _ h => h))
          have SL' : Hd (Sgs (fun b => W1.heap.size ≤ b) W4 (.slice (some ⟨bx, ox, none⟩) n rc) R) := hid (SL.out.keep hk (fun _ _ _ h => h))
          have SD' : Hd (Own (fun b => V.heap.size ≤ b) W4 5 1 (.slice a4 n4 c4) n4 (u8s (Cr.seal_ (pk y)))) := hid (SD.out.keep hk (fun _ _ _ h => h))
          clear HN HPV HBV SM HP SL SD
          have HN := HN'
          clear HN'
          have HPV := HPV'
          clear HPV'
          have HBV := HBV'
          clear HBV'
          have SM := SM'
          clear SM'
          have HP := HP'
          clear HP'
          have SL := SL'
          clear SL'
          have SD := SD'
          clear SD'
          have HK' : Hd (Keeps (fun _ => False) w W4) := hid (HK.out.trans hk)
          clear HK
          have HK := HK'
          clear HK'
          have z_W4 := hk.size
          clear hk
          go_upto_region 14 with fail
          have KZo := KZ
          clear KZ
          generalize hW : World.alloc W4 _ = W5
          have KS : Hd (Keeps (fun _ => False) W4 W5) := hid (by rw [← hW]; exact (Keeps.alloc (Keeps.refl (fun _ => False) W4) _))
          have HN' : Hd (NibF W5) := hid (HN.out.keep KS.out (fun _ _ _ h => h))
          have HPV' : Hd (Row (fun b => b < w.heap.size) W5 1 (.slice pa np pc) np (i64s places)) := hid (HPV.out.keep KS.out (fun _ _ _ h => h))
          have HBV' : Hd (Row (fun b => b < w.heap.size) W5 1 (.slice ba nb bc) nb (u32s bts)) := hid (HBV.out.keep KS.out (fun _ _ _ h => h))
          have SM' : Hd (Sl (fun b => b < w.heap.size) W5 (.slice ma x.length mc) (u8s x)) := hid (SM.out.keep KS.out (fun _ _ _ h => h))
          have HP' : Hd (PartR (fun b => (b = w.heap.size ∨ W2.heap.size ≤ b) ∧ b < V.heap.size) W5 (w.heap.size) M) := hid (HP.out.keep KS.out (fun _ _ _ h => h))
          have SL' : Hd (Sgs (fun b => W1.heap.size ≤ b) W5 (.slice (some ⟨bx, ox, none⟩) n rc) R) := hid (SL.out.keep KS.out (fun _ _ _ h => h))
          have SD' : Hd (Own (fun b => V.heap.size ≤ b) W5 5 1 (.slice a4 n4 c4) n4 (u8s (Cr.seal_ (pk y)))) := hid (SD.out.keep KS.out (fun _ _ _ h => h))
          have SU' : Hd (Own (fun b => V.heap.size ≤ b) W5 5 1 (.slice au y.d.length cu) y.d.length (u8s y.d)) := hid (SU.out.keep KS.out (fun _ _ _ h => h))
          have XKB : Hd (Keeps (fun _ => False) W4 W5) := hid KS.out
          have BS : Hd (Blk W5 W4.heap.size #[(.int .i64 y.f), (.int .i64 y.o), (.int .i64 y.t), (.int .u32 (y.s : Int)), (.slice au y.d.length cu)] 44) := hid (by rw [← hW]; exact (blk_new _ _ _))
          clear HN HPV HBV SM HP SL SD SU
          have HN := HN'
          clear HN'
          have HPV := HPV'
          clear HPV'
          have HBV := HBV'
          clear HBV'
          have SM := SM'
          clear SM'
          have HP := HP'
          clear HP'
          have SL := SL'
          clear SL'
          have SD := SD'
          clear SD'
          have SU := SU'
          clear SU'
          have HK' : Hd (Keeps (fun _ => False) w W5) := hid (HK.out.trans KS.out)
          clear HK
          have HK := HK'
          clear HK'
          have z_W5 : W4.heap.size + 1 ≤ W5.heap.size := by rw [← hW]; simp
          clear hW KS
          have KZ : Hd (Keeps (fun b => b = w.heap.size) W2 W5) := hid (KZo.out.trans (XKB.out.mono (fun _ _ h => h.elim)))
          clear KZo XKB
          obtain ⟨e0, ef, -⟩ := put_of (show x.length ≤ 65536 by omega) HFB.out HFM.out HOY.out
          have HE0 := hid e0; have HF2 := hid ef
          clear e0 ef
          have HOK := hid HFM.out.ok
          have o_BS_0 : W5.cell? ⟨W4.heap.size, 0, none⟩ = some ((.int .i64 y.f)) := blk_cell BS.out 0
          have o_BS_1 : W5.cell? ⟨W4.heap.size, 1, none⟩ = some ((.int .i64 y.o)) := blk_cell BS.out 1
          have o_BS_2 : W5.cell? ⟨W4.heap.size, 2, none⟩ = some ((.int .i64 y.t)) := blk_cell BS.out 2
          have o_BS_3 : W5.cell? ⟨W4.heap.size, 3, none⟩ = some ((.int .u32 (y.s : Int))) := blk_cell BS.out 3
          have o_BS_4 : W5.cell? ⟨W4.heap.size, 4, none⟩ = some ((.slice au y.d.length cu)) := blk_cell BS.out 4
          go_wp2_with fail
          refine (Put_any _ _ M y au cu _ HP.out HOK.out ((row_sl SU.out.row (by rw [u8s_length])).mono (fun b hb h => ⟨fun h3 => by have := h3.2; omega, hb⟩)) HPO.out.d HPO.out.s).mono ?_
          rintro e w2 ⟨rfl, hp5, hk5⟩
          rw [HE0.out]
          have HPS : Hd (PutSt (fun b => b = w.heap.size) W2 (w.heap.size) (putM M y) w2) := hid ⟨hp5.mono (fun b _ h => by rcases h with h | h; exact h.1; exact .inr (by omega)), KZ.out.trans' hk5 (fun b hb h => by rcases h.1 with h | h; exact h; omega)⟩
          clear hp5 hk5 KZ HP
          go_wp2_with fail
          go_roundw
          case rel => exact ⟨i + 1, _, by go_num, by omega, HF2, HPS⟩
          case measure => simp [intOf]; omega
    · have hie : i = n := by omega
      have k0 : ¬ ((i : Int) < n) := by omega
      clear hin hi hie
      have HOK := hid HFM.out.ok
      clear KZ
      obtain ⟨G, hG⟩ : ∃ G, gapsM M = G := ⟨_, rfl⟩
      have HG := hid hG
      obtain ⟨gl, gb⟩ := gapsM_ok HOK.out
      rw [hG] at gl gb
      have HGL := hid gl; have HGB := hid gb
      clear hG gl gb
      clear SL HPV HBV
      go_wp2_with fail
      refine (Gaps_any _ _ M _ HP.out HOK.out).mono ?_
      rw [HG.out]
      rintro e W3 ⟨ga, gc, rfl, hgo, hk⟩
      have SG : Hd (Gps (fun b => V.heap.size ≤ b) _ (.slice ga G.length gc) G) := hid hgo.row
      clear hgo
      have HN' : Hd (NibF W3) := hid (HN.out.keep hk (fun _ _ _ h => h))
      have SM' : Hd (Sl (fun b => b < w.heap.size) W3 (.slice ma x.length mc) (u8s x)) := hid (SM.out.keep hk (fun _ _ _ h => h))
      have HP' : Hd (PartR (fun b => (b = w.heap.size ∨ W2.heap.size ≤ b) ∧ b < V.heap.size) W3 (w.heap.size) M) := hid (HP.out.keep hk (fun _ _ _ h => h))
      clear HN SM HP
      have HN := HN'
      clear HN'
      have SM := SM'
      clear SM'
      have HP := HP'
      clear HP'
      have HK' : Hd (Keeps (fun _ => False) w W3) := hid (HK.out.trans hk)
      clear HK
      have HK := HK'
      clear HK'
      have z_W3 := hk.size
      clear hk
      obtain ⟨s0, hs0⟩ : ∃ s0, wrap64 (n0 + 1) = s0 := ⟨_, rfl⟩
      have HS0 : Hd (-9223372036854775808 ≤ s0 ∧ s0 ≤ 9223372036854775807) := hid (by rw [← hs0]; unfold wrap64; omega)
      have ws0 : IntKind.i64.wrap (n0 + 1) = s0 := by rw [← hs0]; exact IntWalk.i64_left _
      clear HZBz HRE HF0
      go_wp2_with fail
      try rw [hs0]
      refine (size_any s0 _ HS0.out.1 HS0.out.2).mono ?_
      rintro e wx ⟨rfl, rfl⟩
      have HSLz : Hd (1 + around s0 256 = sizeL s0) := hid rfl
      have HZBz := hid (sizeL_b s0)
      rw [HSLz.out]
      generalize sizeL s0 = z at *
      clear HSLz ws0 hs0 HS0
      obtain ⟨A, hA⟩ : ∃ A, answerL id x G z = A := ⟨_, rfl⟩
      have HA := hid hA
      have HOA : Hd (∀ s ∈ A, OfF id x s) := hid (by rw [← hA]; exact fun s hs => (answer_of s hs).1)
      obtain ⟨d1, d2⟩ := answer_done (show x.length ≤ 65536 by omega) HFB.out HZBz.out HFM.out
      rw [HG.out, hA] at d1 d2
      have HGD := hid d1; have HBY := hid d2
      clear hA d1 d2
      go_wp2_with fail
      refine (Answer_any _ _ x G id z _ HN.out (SM.out.mono (fun b h _ => h)) HFB.out (SG.out.mono (fun b h _ => h)) (by have := HGL.out; omega) (by omega)).mono ?_
      rw [HA.out]
      rintro e W4 ⟨ra2, rn2, rc2, rfl, rfl, hrp, hk⟩
      have SA := hid (hrp.sgs.mono (K' := fun b => W3.heap.size ≤ b) (fun b _ h => by rcases h with h | h <;> exact h))
      clear hrp
      have HN' : Hd (NibF W4) := hid (HN.out.keep hk (fun _ _ _ h => h))
      have SM' : Hd (Sl (fun b => b < w.heap.size) W4 (.slice ma x.length mc) (u8s x)) := hid (SM.out.keep hk (fun _ _ _ h => h))
      have HP' : Hd (PartR (fun b => (b = w.heap.size ∨ W2.heap.size ≤ b) ∧ b < V.heap.size) W4 (w.heap.size) M) := hid (HP.out.keep hk (fun _ _ _ h => h))
      have SG' : Hd (Gps (fun b => V.heap.size ≤ b) W4 (.slice ga G.length gc) G) := hid (SG.out.keep hk (fun _ _ _ h => h))
      clear HN SM HP SG
      have HN := HN'
      clear HN'
      have SM := SM'
      clear SM'
      have HP := HP'
      clear HP'
      have SG := SG'
      clear SG'
      have HK' : Hd (Keeps (fun _ => False) w W4) := hid (HK.out.trans hk)
      clear HK
      have HK := HK'
      clear HK'
      have z_W4 := hk.size
      clear hk
      obtain ⟨m, hm⟩ : ∃ m, A.length = m := ⟨_, rfl⟩
      rw [hm] at SA ⊢
      have HNA := hid hm
      clear hm
      clear SG
      have hAl : m ≤ 9223372036854775807 := by obtain ⟨a, c, e, q1, q2⟩ := SA.out.form; unfold maxLen at q2; rw [← HNA.out]; omega
      go_wp2_with fail
      go_loopw [21] (fun iv wr => ∃ i : Nat, iv = .int .i64 i ∧ i ≤ m ∧ Hd (PutSt (fun b => (b = w.heap.size ∨ W2.heap.size ≤ b) ∧ b < V.heap.size) W4 (w.heap.size) ((A.take i).foldl putM M) wr)) (fun iv _ => m - (intOf iv).toNat)
      case atStart => exact ⟨0, rfl, Nat.zero_le _, hid (putSt_start HP.out)⟩
      case round =>
        have HN01 := HN
        have SM01 := SM
        have SA01 := SA
        obtain ⟨U, hU⟩ : ∃ U, U = wr := ⟨_, rfl⟩
        subst hU
        obtain ⟨i, rfl, hin, PS⟩ := hrel
        have kU := PS.out.2
        have HKU : Hd (Keeps (fun _ => False) w U) := hid (HK.out.trans' kU (fun b hb h => by omega))
        have zU := kU.size
        clear HN SM SA HP HK
        have HK := HKU
        clear HKU
        have HN : Hd (NibF U) := hid (HN01.out.keep kU (fun b h1 h2 h3 => by omega))
        have SM : Hd (Sl (fun b => b < w.heap.size) U (.slice ma x.length mc) (u8s x)) := hid (SM01.out.keep kU (fun b h1 h2 h3 => by omega))
        have SA : Hd (Sgs (fun b => W3.heap.size ≤ b) U (.slice ra2 m rc2) A) := hid (SA01.out.keep kU (fun b h1 h2 h3 => by omega))
        have HPn : Hd (PartR (fun b => (((b = w.heap.size ∨ W2.heap.size ≤ b) ∧ b < V.heap.size) ∨ W4.heap.size ≤ b) ∧ b < U.heap.size) U (w.heap.size) ((A.take i).foldl putM M)) := hid (PS.out.1.mono (fun b hb h => ⟨h, hb⟩))
        have KZ : Hd (Keeps (fun b => (b = w.heap.size ∨ W2.heap.size ≤ b) ∧ b < V.heap.size) W4 U) := hid kU
        clear kU
        have HP := HPn
        clear HPn
        obtain ⟨f1, f2, f3⟩ := puts_of (show x.length ≤ 65536 by omega) HFB.out (A.take i) M HFM.out (fun s hs => HOA.out s (List.mem_of_mem_take hs))
        have HFI := hid f1
        clear f1 f2 f3
        by_cases hi : i < m
        · have k1 : (i : Int) < m := by omega
          have k2 : (0 : Int) ≤ i := by omega
          obtain ⟨y, hy⟩ : ∃ y, A[i]? = some y := ⟨A[i]'(by rw [HNA.out]; exact hi), List.getElem?_eq_getElem _⟩
          obtain ⟨bx, ox, rfl, hbx, hbx2, hcx⟩ := sgs_cells SA.out (by rw [HNA.out]; omega)
          obtain ⟨x0, x1, x2, x3, ad, cd, x4, SX⟩ := hcx i y hy
          have HSX := hid SX
          have HOY0 := HOA.out y (List.mem_of_getElem? hy)
          have HOY := hid HOY0
          have HPO := hid (pk_of HID.out (show x.length ≤ 65536 by omega) HFB.out HOY0)
          have HNX : Hd ((A.take (i + 1)).foldl putM M = putM ((A.take i).foldl putM M) y) := hid (by rw [List.take_add_one, hy, List.foldl_append]; rfl)
          clear hcx SX hy HOY0
          generalize hMi : (A.take i).foldl putM M = Mi at *
          clear hMi
          clear PS
          go_wp2_with fail
          refine (packed_any y ad cd _ HN.out (HSX.out.mono (fun b hb _ => hb)) HPO.out).mono ?_
          rintro e W5 ⟨a4, n4, c4, rfl, hn4, ho4, hk⟩
          have SD : Hd (Own (fun b => U.heap.size ≤ b) _ 5 1 (.slice a4 n4 c4) n4 (u8s (Cr.seal_ (pk y)))) := hid ho4
          have HN4 : Hd (n4 = (Cr.seal_ (pk y)).length) := hid (by rw [hn4, u8s_length])
          clear hn4 ho4 x0 x1 x2 x3 x4
          have KZ' : Hd (Keeps (fun b => (b = w.heap.size ∨ W2.heap.size ≤ b) ∧ b < V.heap.size) W4 W5) := hid (KZ.out.trans (hk.mono (fun _ _ h => h.elim)))
          clear KZ
          have KZ := KZ'
          clear KZ'
          have HN' : Hd (NibF W5) := hid (HN.out.keep hk (fun _ _ _ h => h))
          have SM' : Hd (Sl (fun b => b < w.heap.size) W5 (.slice ma x.length mc) (u8s x)) := hid (SM.out.keep hk (fun _ _ _ h => h))
          have HP' : Hd (PartR (fun b => (((b = w.heap.size ∨ W2.heap.size ≤ b) ∧ b < V.heap.size) ∨ W4.heap.size ≤ b) ∧ b < U.heap.size) W5 (w.heap.size) Mi) := hid (HP.out.keep hk (fun _ _ _ h => h))
          have SA' : Hd (Sgs (fun b => W3.heap.size ≤ b) W5 (.slice (some ⟨bx, ox, none⟩) m rc2) A) := hid (SA.out.keep hk (fun _ _ _ h => h))
          clear HN SM HP SA
          have HN := HN'
          clear HN'
          have SM := SM'
          clear SM'
          have HP := HP'
          clear HP'
          have SA := SA'
          clear SA'
          have HK' : Hd (Keeps (fun _ => False) w W5) := hid (HK.out.trans hk)
          clear HK
          have HK := HK'
          clear HK'
          have z_W5 := hk.size
          clear hk
          go_wp2_with fail
          refine (unpacked_ok _ _ y _ HN.out (row_sl SD.out.row (by rw [u8s_length, HN4.out])) HPO.out).mono ?_
          rintro e W6 ⟨au, cu, rfl, huo, hk⟩
          have SU : Hd (Own (fun b => U.heap.size ≤ b) _ 5 1 (.slice au y.d.length cu) y.d.length (u8s y.d)) := hid (huo.mono (fun b _ h => by omega))
          clear huo
          have KZ' : Hd (Keeps (fun b => (b = w.heap.size ∨ W2.heap.size ≤ b) ∧ b < V.heap.size) W4 W6) := hid (KZ.out.trans (hk.mono (fun _ _ h => h.elim)))
          clear KZ
          have KZ := KZ'
          clear KZ'
          have HN' : Hd (NibF W6) := hid (HN.out.keep hk (fun _ _ _ h => h))
          have SM' : Hd (Sl (fun b => b < w.heap.size) W6 (.slice ma x.length mc) (u8s x)) := hid (SM.out.keep hk (fun _ _ _ h => h))
          have HP' : Hd (PartR (fun b => (((b = w.heap.size ∨ W2.heap.size ≤ b) ∧ b < V.heap.size) ∨ W4.heap.size ≤ b) ∧ b < U.heap.size) W6 (w.heap.size) Mi) := hid (HP.out.keep hk (fun _ _ _ h => h))
          have SA' : Hd (Sgs (fun b => W3.heap.size ≤ b) W6 (.slice (some ⟨bx, ox, none⟩) m rc2) A) := hid (SA.out.keep hk (fun _ _ _ h => h))
          have SD' : Hd (Own (fun b => U.heap.size ≤ b) W6 5 1 (.slice a4 n4 c4) n4 (u8s (Cr.seal_ (pk y)))) := hid (SD.out.keep hk (fun _ _ _ h => h))
          clear HN SM HP SA SD
          have HN := HN'
          clear HN'
          have SM := SM'
          clear SM'
          have HP := HP'
          clear HP'
          have SA := SA'
          clear SA'
          have SD := SD'
          clear SD'
          have HK' : Hd (Keeps (fun _ => False) w W6) := hid (HK.out.trans hk)
          clear HK
          have HK := HK'
          clear HK'
          have z_W6 := hk.size
          clear hk
          go_upto_region 21 with fail
          have KZo := KZ
          clear KZ
          generalize hW : World.alloc W6 _ = W7
          have KS : Hd (Keeps (fun _ => False) W6 W7) := hid (by rw [← hW]; exact (Keeps.alloc (Keeps.refl (fun _ => False) W6) _))
          have HN' : Hd (NibF W7) := hid (HN.out.keep KS.out (fun _ _ _ h => h))
          have SM' : Hd (Sl (fun b => b < w.heap.size) W7 (.slice ma x.length mc) (u8s x)) := hid (SM.out.keep KS.out (fun _ _ _ h => h))
          have HP' : Hd (PartR (fun b => (((b = w.heap.size ∨ W2.heap.size ≤ b) ∧ b < V.heap.size) ∨ W4.heap.size ≤ b) ∧ b < U.heap.size) W7 (w.heap.size) Mi) := hid (HP.out.keep KS.out (fun _ _ _ h => h))
          have SA' : Hd (Sgs (fun b => W3.heap.size ≤ b) W7 (.slice (some ⟨bx, ox, none⟩) m rc2) A) := hid (SA.out.keep KS.out (fun _ _ _ h => h))
          have SD' : Hd (Own (fun b => U.heap.size ≤ b) W7 5 1 (.slice a4 n4 c4) n4 (u8s (Cr.seal_ (pk y)))) := hid (SD.out.keep KS.out (fun _ _ _ h => h))
          have SU' : Hd (Own (fun b => U.heap.size ≤ b) W7 5 1 (.slice au y.d.length cu) y.d.length (u8s y.d)) := hid (SU.out.keep KS.out (fun _ _ _ h => h))
          have XKB : Hd (Keeps (fun _ => False) W6 W7) := hid KS.out
          have BS : Hd (Blk W7 W6.heap.size #[(.int .i64 y.f), (.int .i64 y.o), (.int .i64 y.t), (.int .u32 (y.s : Int)), (.slice au y.d.length cu)] 44) := hid (by rw [← hW]; exact (blk_new _ _ _))
          clear HN SM HP SA SD SU
          have HN := HN'
          clear HN'
          have SM := SM'
          clear SM'
          have HP := HP'
          clear HP'
          have SA := SA'
          clear SA'
          have SD := SD'
          clear SD'
          have SU := SU'
          clear SU'
          have HK' : Hd (Keeps (fun _ => False) w W7) := hid (HK.out.trans KS.out)
          clear HK
          have HK := HK'
          clear HK'
          have z_W7 : W6.heap.size + 1 ≤ W7.heap.size := by rw [← hW]; simp
          clear hW KS
          have KZ : Hd (Keeps (fun b => (b = w.heap.size ∨ W2.heap.size ≤ b) ∧ b < V.heap.size) W4 W7) := hid (KZo.out.trans (XKB.out.mono (fun _ _ h => h.elim)))
          clear KZo XKB
          obtain ⟨e0, ef, -⟩ := put_of (show x.length ≤ 65536 by omega) HFB.out HFI.out HOY.out
          have HE0 := hid e0; have HF2 := hid ef
          clear e0 ef
          have HOK := hid HFI.out.ok
          have o_BS_0 : W7.cell? ⟨W6.heap.size, 0, none⟩ = some ((.int .i64 y.f)) := blk_cell BS.out 0
          have o_BS_1 : W7.cell? ⟨W6.heap.size, 1, none⟩ = some ((.int .i64 y.o)) := blk_cell BS.out 1
          have o_BS_2 : W7.cell? ⟨W6.heap.size, 2, none⟩ = some ((.int .i64 y.t)) := blk_cell BS.out 2
          have o_BS_3 : W7.cell? ⟨W6.heap.size, 3, none⟩ = some ((.int .u32 (y.s : Int))) := blk_cell BS.out 3
          have o_BS_4 : W7.cell? ⟨W6.heap.size, 4, none⟩ = some ((.slice au y.d.length cu)) := blk_cell BS.out 4
          go_wp2_with fail
          refine (Put_any _ _ Mi y au cu _ HP.out HOK.out ((row_sl SU.out.row (by rw [u8s_length])).mono (fun b hb h => ⟨fun h3 => by have := h3.2; omega, hb⟩)) HPO.out.d HPO.out.s).mono ?_
          rintro e w2 ⟨rfl, hp5, hk5⟩
          rw [HE0.out]
          have HPS : Hd (PutSt (fun b => (b = w.heap.size ∨ W2.heap.size ≤ b) ∧ b < V.heap.size) W4 (w.heap.size) (putM Mi y) w2) := hid ⟨hp5.mono (fun b _ h => by rcases h with h | h; exact h.1; exact .inr (by omega)), KZ.out.trans' hk5 (fun b hb h => by rcases h.1 with h | h; exact h; omega)⟩
          clear hp5 hk5 KZ HP
          rw [← HNX.out] at HPS
          go_wp2_with fail
          go_roundw
          case rel => exact ⟨i + 1, by go_num, by omega, HPS⟩
          case measure => simp [intOf]; omega
        · have hie : i = m := by omega
          have k0 : ¬ ((i : Int) < m) := by omega
          have PS9 := PS.out
          rw [List.take_of_length_le (by rw [HNA.out]; omega)] at PS9 HFI
          clear HP KZ
          have HP : Hd (PartR (fun b => ((b = w.heap.size ∨ W2.heap.size ≤ b) ∧ b < V.heap.size) ∨ W4.heap.size ≤ b) U (w.heap.size) (A.foldl putM M)) := hid PS9.1
          clear PS9 PS hin hi hie
          have HOK9 := hid HFI.out.ok
          generalize hM9 : A.foldl putM M = M9 at *
          clear hM9
          go_wp2_with fail
          refine (Bytes_any _ _ M9 _ HN.out HP.out HOK9.out).mono ?_
          rw [HBY.out]
          rintro e W5 ⟨ba2, bc2, rfl, hbo, hk⟩
          have SB : Hd (Sl (fun _ => True) _ (.slice ba2 x.length bc2) (u8s x)) := hid (row_sl (hbo.row.mono (fun _ _ _ => trivial)) (by simp))
          clear hbo
          have HN' : Hd (NibF W5) := hid (HN.out.keep hk (fun _ _ _ h => h))
          have SM' : Hd (Sl (fun b => b < w.heap.size) W5 (.slice ma x.length mc) (u8s x)) := hid (SM.out.keep hk (fun _ _ _ h => h))
          have HP' : Hd (PartR (fun b => ((b = w.heap.size ∨ W2.heap.size ≤ b) ∧ b < V.heap.size) ∨ W4.heap.size ≤ b) W5 (w.heap.size) M9) := hid (HP.out.keep hk (fun _ _ _ h => h))
          have SA' : Hd (Sgs (fun b => W3.heap.size ≤ b) W5 (.slice ra2 m rc2) A) := hid (SA.out.keep hk (fun _ _ _ h => h))
          clear HN SM HP SA
          have HN := HN'
          clear HN'
          have SM := SM'
          clear SM'
          have HP := HP'
          clear HP'
          have SA := SA'
          clear SA'
          have HK' : Hd (Keeps (fun _ => False) w W5) := hid (HK.out.trans hk)
          clear HK
          have HK := HK'
          clear HK'
          have z_W5 := hk.size
          clear hk
          go_wp2_with fail
          refine (SameBytes_any _ _ _ _ x x _ SB.out SM.out HFB.out HFB.out).mono ?_
          rw [decide_eq_true (rfl : x = x)]
          rintro e wx ⟨rfl, rfl⟩
          go_wp2_with fail
          refine (lives_any _ HN.out).mono ?_
          rintro e W6 ⟨rfl, hk⟩
          have HN' : Hd (NibF W6) := hid (HN.out.keep hk (fun _ _ _ h => h))
          have SM' : Hd (Sl (fun b => b < w.heap.size) W6 (.slice ma x.length mc) (u8s x)) := hid (SM.out.keep hk (fun _ _ _ h => h))
          have HP' : Hd (PartR (fun b => ((b = w.heap.size ∨ W2.heap.size ≤ b) ∧ b < V.heap.size) ∨ W4.heap.size ≤ b) W6 (w.heap.size) M9) := hid (HP.out.keep hk (fun _ _ _ h => h))
          have SA' : Hd (Sgs (fun b => W3.heap.size ≤ b) W6 (.slice ra2 m rc2) A) := hid (SA.out.keep hk (fun _ _ _ h => h))
          have SB' : Hd (Sl (fun _ => True) W6 (.slice ba2 x.length bc2) (u8s x)) := hid (SB.out.keep hk (fun _ _ _ h => h))
          clear HN SM HP SA SB
          have HN := HN'
          clear HN'
          have SM := SM'
          clear SM'
          have HP := HP'
          clear HP'
          have SA := SA'
          clear SA'
          have SB := SB'
          clear SB'
          have HK' : Hd (Keeps (fun _ => False) w W6) := hid (HK.out.trans hk)
          clear HK
          have HK := HK'
          clear HK'
          have z_W6 := hk.size
          clear hk
          go_wp2
          go_ret
          exact ⟨rfl, HK.out⟩
end Go.Proofs.YtgeicbjlichdgaaDoor
namespace Go.Proofs.YtgeicbjlichdgaaDoor
open Go.ChangeShapes Go.WideShapes Go.ChangeAt Go.RowKit
section
variable {H : Type} {enc : TypeId × Value → H} {w : World} {base : Nat} {spare : Nat → Bool} {held : Bool}
theorem open_u32s {v : Value} {d : DataW H} {ps : List MemPlace} (hv : ∃ a len cap, v = .slice a len cap) (h : DataW.Trod enc Tryd.prog w base spare held 70 v d ps) :
    ∃ l : List Nat, Sl (fun b => b < w.heap.size) w v (u32s l) ∧ (∀ n ∈ l, n < 4294967296) := by
  obtain ⟨l, h1, h2, -⟩ := open_slice_k Tryd.underlying70 Tryd.underlying42 (by kernel_rfl) hv h
  have hw : ∀ n ∈ l, 0 ≤ n ∧ n < 4294967296 := fun n hn => by
    have h3 := h2 n hn
    have : 0 ≤ n ∧ n ≤ 4294967295 := by simpa [Lit.wf, IntKind.min, IntKind.max, IntKind.signed, IntKind.bits] using h3
    omega
  refine ⟨l.map Int.toNat, ?_, fun c hc => ?_⟩
  · have : u32s (l.map Int.toNat) = l.map (Value.int .u32) := by
      simp only [u32s, List.map_map]
      refine List.map_congr_left fun n hn => ?_
      have := hw n hn
      simp only [Function.comp]
      rw [Int.toNat_of_nonneg this.1]
    rw [this]; exact h1
  · obtain ⟨n, hn, rfl⟩ := List.mem_map.1 hc
    have := hw n hn
    omega
end
end Go.Proofs.YtgeicbjlichdgaaDoor
