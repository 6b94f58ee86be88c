/- File: FileRefuses walked. -/
import Derived.Test.YtgeicbjlichdgaaDoorFileQ
import Derived.Test.YtgeicbjlichdgaaDoorFileR
import Derived.Test.YtgeicbjlichdgaaDoorFileS
namespace Go.Proofs.YtgeicbjlichdgaaDoor
open Go.RowKit
attribute [local go_sem ↓] Go.wp_at_zero Go.wp_at_succ
def capT (t : Int) : Int := if 700 < t ∧ t ≤ 65536 then 700 else t
set_option maxRecDepth 100000 in set_option maxHeartbeats 1000000 in
theorem refuses_any (v1 vs vo : Value) (l1 : List Nat) (sizes order : List Int) (id : Int) (y0 : Seg) (sa : Option Addr) (sc : Nat) (w : World) (hN : Cr.Nib w) (h1 : Sl (fun b => b < w.heap.size) w v1 (u8s l1)) (hl1 : ∀ c ∈ l1, c < 256) (hs : Sl (fun b => b < w.heap.size) w vs (i64s sizes)) (hsr : I64s sizes) (ho : Sl (fun b => b < w.heap.size) w vo (i64s order)) (hor : I64s order)
    (hy : Sl (fun b => b < w.heap.size) w (.slice sa y0.d.length sc) (u8s y0.d)) (hyb : ∀ c ∈ y0.d, c < 256) (hy32 : y0.s < 4294967296) :
    Calls Tryd.prog 10 #[.int .i64 id, v1, vs, vo, .agg #[.int .i64 y0.f, .int .i64 y0.o, .int .i64 y0.t, .int .u32 (y0.s : Int), .slice sa y0.d.length sc]] w fun e w' => e = .returned (.bool true) ∧ Keeps (fun _ => False) w w' := by
  obtain ⟨i0, zz, hi, hz0, hz1, hz2, hz3⟩ := sg_parts
  have HS := hid hs; have HSR := hid hsr; have HO := hid ho; have HOR := hid hor; have HY := hid hy; have HYB := hid hyb; have HY32 := hid hy32
  clear hs hsr ho hor hy hyb hy32
  have HN : Hd (NibF w) := hid hN
  have hpos := HN.out.pos
  have H1 := hid h1
  obtain ⟨x, hx⟩ : ∃ x, l1.take 700 = x := ⟨_, rfl⟩
  have HFB : Hd (∀ c ∈ x, c < 256) := hid (by rw [← hx]; exact fun c hc => hl1 c (List.mem_of_mem_take hc))
  have hxl : x.length ≤ 700 := by rw [← hx, List.length_take]; omega
  have HFE := hid hx
  clear hN h1 hl1 hx
  go_enter Tryd.func10, Tryd.ntmps10
  go_upto_region 1 with fail
  generalize hW : World.alloc w _ = W1
  have KS : Hd (Keeps (fun _ => False) w W1) := hid (by rw [← hW]; exact (Keeps.alloc (Keeps.refl (fun _ => False) w) _))
  have HN' : Hd (NibF W1) := hid (HN.out.keep KS.out (fun _ _ _ h => h))
  have H1' : Hd (Sl (fun b => b < w.heap.size) W1 v1 (u8s l1)) := hid (H1.out.keep KS.out (fun _ _ _ h => h))
  have HS' : Hd (Sl (fun b => b < w.heap.size) W1 vs (i64s sizes)) := hid (HS.out.keep KS.out (fun _ _ _ h => h))
  have HO' : Hd (Sl (fun b => b < w.heap.size) W1 vo (i64s order)) := hid (HO.out.keep KS.out (fun _ _ _ h => h))
  have HY' : Hd (Sl (fun b => b < w.heap.size) W1 (.slice sa y0.d.length sc) (u8s y0.d)) := hid (HY.out.keep KS.out (fun _ _ _ h => h))
  have BS : Hd (Blk W1 w.heap.size #[(.int .i64 y0.f), (.int .i64 y0.o), (.int .i64 y0.t), (.int .u32 (y0.s : Int)), (.slice sa y0.d.length sc)] 44) := hid (by rw [← hW]; exact (blk_new _ _ _))
  clear HN H1 HS HO HY
  have HN := HN'
  clear HN'
  have H1 := H1'
  clear H1'
  have HS := HS'
  clear HS'
  have HO := HO'
  clear HO'
  have HY := HY'
  clear HY'
  have HK : Hd (Keeps (fun _ => False) w W1) := hid KS.out
  have z_W1 : w.heap.size + 1 ≤ W1.heap.size := by rw [← hW]; simp
  clear hW KS
  go_wp2_with fail
  refine (most_any _ _ l1 _ H1.out).mono ?_
  rw [HFE.out]
  rintro e wx ⟨ma, mc, rfl, hm, rfl⟩
  have SM := hid hm; clear hm
  go_wp2_with fail
  refine (NewPart_any id _).mono ?_
  rintro e W2 ⟨rfl, hp, hk⟩
  have HP := hid hp
  clear hp
  have HN' : Hd (NibF W2) := hid (HN.out.keep hk (fun _ _ _ h => h))
  have H1' : Hd (Sl (fun b => b < w.heap.size) W2 v1 (u8s l1)) := hid (H1.out.keep hk (fun _ _ _ h => h))
  have HS' : Hd (Sl (fun b => b < w.heap.size) W2 vs (i64s sizes)) := hid (HS.out.keep hk (fun _ _ _ h => h))
  have HO' : Hd (Sl (fun b => b < w.heap.size) W2 vo (i64s order)) := hid (HO.out.keep hk (fun _ _ _ h => h))
  have HY' : Hd (Sl (fun b => b < w.heap.size) W2 (.slice sa y0.d.length sc) (u8s y0.d)) := hid (HY.out.keep hk (fun _ _ _ h => h))
  have BS' : Hd (Blk W2 w.heap.size #[(.int .i64 y0.f), (.int .i64 y0.o), (.int .i64 y0.t), (.int .u32 (y0.s : Int)), (.slice sa y0.d.length sc)] 44) := hid (blk_keep BS.out hk (fun h => h))
  have SM' : Hd (Sl (fun b => b < w.heap.size) W2 (.slice ma x.length mc) (u8s x)) := hid (SM.out.keep hk (fun _ _ _ h => h))
  clear HN H1 HS HO HY BS SM
  have HN := HN'
  clear HN'
  have H1 := H1'
  clear H1'
  have HS := HS'
  clear HS'
  have HO := HO'
  clear HO'
  have HY := HY'
  clear HY'
  have BS := BS'
  clear BS'
  have SM := SM'
  clear SM'
  have HK' : Hd (Keeps (fun _ => False) w W2) := hid (HK.out.trans hk)
  clear HK
  have HK := HK'
  clear HK'
  have z_W2 := hk.size
  clear hk
  have lt_p : W1.heap.size < W2.heap.size := by obtain ⟨_, _, _, _, hb, _⟩ := HP.out; exact blk_lt hb
  obtain ⟨L, hL⟩ : ∃ L, segsL id x sizes order = L := ⟨_, rfl⟩
  have HOL : Hd (∀ s ∈ L, OfF id x s) := hid (by rw [← hL]; exact segs_of (by omega))
  have hll : L.length ≤ 60 := by rw [← hL]; exact segs_len _ _ _ _
  have HL := hid hL
  clear hL
  go_wp2_with fail
  refine (segments_any _ _ _ x sizes order id _ HN.out (SM.out.mono (fun b h _ => h)) HFB.out (by omega) (HS.out.mono (fun b h _ => h)) (HO.out.mono (fun b h _ => h)) HSR.out HOR.out).mono ?_
  rw [HL.out]
  rintro e W3 ⟨la, ln, lc, rfl, rfl, hlp, hk⟩
  have HP1 := hid hlp
  clear hlp
  have HN' : Hd (NibF W3) := hid (HN.out.keep hk (fun _ _ _ h => h))
  have H1' : Hd (Sl (fun b => b < w.heap.size) W3 v1 (u8s l1)) := hid (H1.out.keep hk (fun _ _ _ h => h))
  have HS' : Hd (Sl (fun b => b < w.heap.size) W3 vs (i64s sizes)) := hid (HS.out.keep hk (fun _ _ _ h => h))
  have HO' : Hd (Sl (fun b => b < w.heap.size) W3 vo (i64s order)) := hid (HO.out.keep hk (fun _ _ _ h => h))
  have HY' : Hd (Sl (fun b => b < w.heap.size) W3 (.slice sa y0.d.length sc) (u8s y0.d)) := hid (HY.out.keep hk (fun _ _ _ h => h))
  have BS' : Hd (Blk W3 w.heap.size #[(.int .i64 y0.f), (.int .i64 y0.o), (.int .i64 y0.t), (.int .u32 (y0.s : Int)), (.slice sa y0.d.length sc)] 44) := hid (blk_keep BS.out hk (fun h => h))
  have SM' : Hd (Sl (fun b => b < w.heap.size) W3 (.slice ma x.length mc) (u8s x)) := hid (SM.out.keep hk (fun _ _ _ h => h))
  have HP' : Hd (PartR (fun b => b = W1.heap.size) W3 W1.heap.size (newM id)) := hid (HP.out.keep hk (fun _ _ _ h => h))
  clear HN H1 HS HO HY BS SM HP
  have HN := HN'
  clear HN'
  have H1 := H1'
  clear H1'
  have HS := HS'
  clear HS'
  have HO := HO'
  clear HO'
  have HY := HY'
  clear HY'
  have BS := BS'
  clear BS'
  have SM := SM'
  clear SM'
  have HP := HP'
  clear HP'
  have HK' : Hd (Keeps (fun _ => False) w W3) := hid (HK.out.trans hk)
  clear HK
  have HK := HK'
  clear HK'
  have z_W3 := hk.size
  clear hk
  have SL := hid (HP1.out.sgs.mono (K' := fun b => W2.heap.size ≤ b) (fun b _ h => by rcases h with h | h <;> exact h))
  clear HP1
  have HF00 : Hd (Fit id x (newM id)) := hid (newM_fit id x)
  obtain ⟨n, hn⟩ : ∃ n, L.length = n := ⟨_, rfl⟩
  rw [hn] at SL hll ⊢
  have HNL := hid hn
  clear hn
  have hal : L.length = n := HNL.out
  go_wp2_with fail
  go_loopw [14] (fun iv wr => ∃ k : Nat, iv = .int .i64 k ∧ k ≤ n ∧ Hd (PutSt (fun b => b = W1.heap.size) W3 (W1.heap.size) ((L.take k).foldl putM (newM id)) wr)) (fun iv _ => n - (intOf iv).toNat)
  case atStart => exact ⟨0, rfl, Nat.zero_le _, hid (putSt_start HP.out)⟩
  case round =>
    obtain ⟨k, rfl, hk, PS⟩ := hrel
    by_cases hkm : k < n
    · have k1 : (k : Int) < n := by omega
      have k2 : (0 : Int) ≤ k := by omega
      obtain ⟨y, hy⟩ : ∃ y, L[k]? = some y := ⟨L[k]'(by omega), List.getElem?_eq_getElem _⟩
      obtain ⟨bx, ox, rfl, hbx, hbx2, hcx⟩ := sgs_cells SL.out (by omega)
      obtain ⟨x0, x1, x2, x3, ad, cd, x4, SX⟩ := hcx k y hy
      have ps2 := PS.out.2
      have m0 := keep_cell ps2 (fun h => by omega) x0; have m1 := keep_cell ps2 (fun h => by omega) x1; have m2 := keep_cell ps2 (fun h => by omega) x2; have m3 := keep_cell ps2 (fun h => by omega) x3; have m4 := keep_cell ps2 (fun h => by omega) x4
      have SXR := hid (SX.keep ps2 (fun b h1 h2 h3 => by omega))
      have HSX := hid SX
      have zps := ps2.size
      obtain ⟨f1, f2, f3⟩ := puts_of (show x.length ≤ 65536 by omega) HFB.out (L.take k) (newM id) HF00.out (fun s hs => HOL.out s (List.mem_of_mem_take hs))
      have HOY := HOL.out y (List.mem_of_getElem? hy)
      obtain ⟨e0, -, -⟩ := put_of (show x.length ≤ 65536 by omega) HFB.out f1 HOY
      have HNX : Hd ((L.take (k + 1)).foldl putM (newM id) = putM ((L.take k).foldl putM (newM id)) y) := hid (by rw [List.take_add_one, hy, List.foldl_append]; rfl)
      have HOK := hid f1.ok; have HE0 := hid e0; have HYB : Hd (∀ c ∈ y.d, c < 256) := hid (fun c hc => by rw [HOY.d] at hc; exact HFB.out c (List.mem_of_mem_drop (List.mem_of_mem_take hc))); have HY32 : Hd (y.s < 4294967296) := hid (by rw [HOY.s]; exact Cr.crc_lt HFB.out)
      have HYL : Hd (y.o + y.d.length ≤ x.length ∧ 0 ≤ y.o) := hid ⟨HOY.e, HOY.o⟩
      clear x0 x1 x2 x3 x4 hcx SX ps2 f1 f2 f3 e0 HOY
      generalize hM : (L.take k).foldl putM (newM id) = M at *
      clear hM
      go_wp2_with fail
      refine (Put_any _ _ M y ad cd _ PS.out.1 HOK.out (sl_below HSX.out PS.out.2 (fun b h1 h2 h3 => by omega) (fun b h1 h2 => by omega)) HYB.out HY32.out).mono ?_
      rintro e w2 hpp
      obtain ⟨rfl, PS2⟩ := putSt_put PS.out hpp
      rw [HE0.out]
      rw [← HNX.out] at PS2
      have HPS := hid PS2
      clear PS2 hpp PS SXR m0 m1 m2 m3 m4
      go_wp2
      go_roundw
      case rel => exact ⟨k + 1, by go_num, by omega, HPS⟩
      case measure => simp [intOf]; omega
    · have hkn : k = n := by omega
      have k0 : ¬ ((k : Int) < n) := by omega
      have PS9 : PutSt (fun b => b = W1.heap.size) W3 (W1.heap.size) (L.foldl putM (newM id)) wr := by have h := PS.out; rw [List.take_of_length_le (by omega)] at h; exact h
      clear hk hkm PS
      obtain ⟨W4, rfl⟩ : ∃ V, V = wr := ⟨_, rfl⟩
      obtain ⟨hp9, hk⟩ := PS9
      clear HP
      have HP := hid hp9
      clear hp9
      have HN' : Hd (NibF W4) := hid (HN.out.keep hk (fun b h1 h2 h3 => by omega))
      have H1' : Hd (Sl (fun b => b < w.heap.size) W4 v1 (u8s l1)) := hid (H1.out.keep hk (fun b h1 h2 h3 => by omega))
      have HS' : Hd (Sl (fun b => b < w.heap.size) W4 vs (i64s sizes)) := hid (HS.out.keep hk (fun b h1 h2 h3 => by omega))
      have HO' : Hd (Sl (fun b => b < w.heap.size) W4 vo (i64s order)) := hid (HO.out.keep hk (fun b h1 h2 h3 => by omega))
      have HY' : Hd (Sl (fun b => b < w.heap.size) W4 (.slice sa y0.d.length sc) (u8s y0.d)) := hid (HY.out.keep hk (fun b h1 h2 h3 => by omega))
      have BS' : Hd (Blk W4 w.heap.size #[(.int .i64 y0.f), (.int .i64 y0.o), (.int .i64 y0.t), (.int .u32 (y0.s : Int)), (.slice sa y0.d.length sc)] 44) := hid (blk_keep BS.out hk (fun h => by omega))
      have SM' : Hd (Sl (fun b => b < w.heap.size) W4 (.slice ma x.length mc) (u8s x)) := hid (SM.out.keep hk (fun b h1 h2 h3 => by omega))
      have SL' : Hd (Sgs (fun b => W2.heap.size ≤ b) W4 (.slice la n lc) L) := hid (SL.out.keep hk (fun b h1 h2 h3 => by omega))
      clear HN H1 HS HO HY BS SM SL
      have HN := HN'
      clear HN'
      have H1 := H1'
      clear H1'
      have HS := HS'
      clear HS'
      have HO := HO'
      clear HO'
      have HY := HY'
      clear HY'
      have BS := BS'
      clear BS'
      have SM := SM'
      clear SM'
      have SL := SL'
      clear SL'
      have HK' : Hd (Keeps (fun _ => False) w W4) := hid (HK.out.trans' hk (fun i hi h => by omega))
      clear HK
      have HK := HK'
      clear HK'
      have z_W4 := hk.size
      clear hk
      obtain ⟨f1, f2, -⟩ := puts_of (show x.length ≤ 65536 by omega) HFB.out L (newM id) HF00.out HOL.out
      have HOK := hid f1.ok
      have HKN : Hd ((L.foldl putM (newM id)).kn = decide (0 < n)) := hid (by rw [← hal]; exact put_kn ⟨fun h e => (by rw [e] at h; exact Bool.noConfusion h), f2⟩)
      clear f1 f2
      generalize hM : L.foldl putM (newM id) = M at *
      clear hM hal
      clear SL
      have hT := hid (show capT y0.t = if 700 < y0.t ∧ y0.t ≤ 65536 then 700 else y0.t from rfl)
      obtain ⟨T0, hT0⟩ : ∃ T0, capT y0.t = T0 := ⟨_, rfl⟩
      obtain ⟨t0, ht0⟩ : ∃ t0, y0.t = t0 := ⟨_, rfl⟩
      rw [hT0, ht0] at hT
      obtain ⟨y, hyy⟩ : ∃ y : Seg, ⟨y0.f, y0.o, T0, y0.s, y0.d⟩ = y := ⟨_, rfl⟩
      have HYD : Hd (y.f = y0.f ∧ y.o = y0.o ∧ y.t = T0 ∧ y.s = y0.s ∧ y.d = y0.d) := hid (by rw [← hyy]; exact ⟨rfl, rfl, rfl, rfl, rfl⟩)
      clear hyy hT0
      rw [ht0] at BS
      have HT0 := hid ht0
      clear ht0
      go_upto_region 11 with fail
      by_cases t1 : 700 < t0
      · by_cases t2 : t0 ≤ 65536
        · skip
          have eT : 700 = T0 := by rw [hT.out, if_pos ⟨t1, t2⟩]
          subst eT
          have o_BS_2 : W4.cell? ⟨w.heap.size, 2, none⟩ = some ((.int .i64 t0)) := blk_cell BS.out 2
          have f_BS_2 : W4.frozen? ⟨w.heap.size, 2, none⟩ = false := blk_free BS.out 2
          go_upto_region 13 with fail
          clear o_BS_2 f_BS_2
          generalize hW : World.setCell W4 _ _ = W5
          have KS : Hd (Keeps (fun b => b = w.heap.size) W4 W5) := hid (by rw [← hW]; exact (Keeps.setCell (S := fun b => b = w.heap.size) (Keeps.refl (fun b => b = w.heap.size) W4) (.inl rfl) _))
          have HN' : Hd (NibF W5) := hid (HN.out.keep KS.out (fun b _ h1 h2 => by omega))
          have H1' : Hd (Sl (fun b => b < w.heap.size) W5 v1 (u8s l1)) := hid (H1.out.keep KS.out (fun b _ h1 h2 => by omega))
          have HS' : Hd (Sl (fun b => b < w.heap.size) W5 vs (i64s sizes)) := hid (HS.out.keep KS.out (fun b _ h1 h2 => by omega))
          have HO' : Hd (Sl (fun b => b < w.heap.size) W5 vo (i64s order)) := hid (HO.out.keep KS.out (fun b _ h1 h2 => by omega))
          have HY' : Hd (Sl (fun b => b < w.heap.size) W5 (.slice sa y0.d.length sc) (u8s y0.d)) := hid (HY.out.keep KS.out (fun b _ h1 h2 => by omega))
          have BS' : Hd (Blk W5 w.heap.size #[(.int .i64 y0.f), (.int .i64 y0.o), (.int .i64 700), (.int .u32 (y0.s : Int)), (.slice sa y0.d.length sc)] 44) := hid (by rw [← hW]; exact (blk_set BS.out 2 _))
          have SM' : Hd (Sl (fun b => b < w.heap.size) W5 (.slice ma x.length mc) (u8s x)) := hid (SM.out.keep KS.out (fun b _ h1 h2 => by omega))
          have HP' : Hd (PartR (fun b => (b = W1.heap.size) ∨ W3.heap.size ≤ b) W5 (W1.heap.size) M) := hid (HP.out.keep KS.out (fun b _ h1 h2 => by omega))
          clear HN H1 HS HO HY BS SM HP
          have HN := HN'
          clear HN'
          have H1 := H1'
          clear H1'
          have HS := HS'
          clear HS'
          have HO := HO'
          clear HO'
          have HY := HY'
          clear HY'
          have BS := BS'
          clear BS'
          have SM := SM'
          clear SM'
          have HP := HP'
          clear HP'
          have HK' : Hd (Keeps (fun _ => False) w W5) := hid (HK.out.trans' KS.out (fun i hi h => by omega))
          clear HK
          have HK := HK'
          clear HK'
          have z_W5 : W4.heap.size + 0 ≤ W5.heap.size := by rw [← hW]; simp
          clear hW KS
          have BSN : Hd (Blk W5 w.heap.size #[.int .i64 y.f, .int .i64 y.o, .int .i64 y.t, .int .u32 (y.s : Int), .slice sa y.d.length sc] 44) := hid (by obtain ⟨d0, d1, d2, d3, d4⟩ := HYD.out; rw [d0, d1, d2, d3, d4]; exact BS.out)
          clear BS
          have BS := BSN
          clear BSN
          obtain ⟨V11, hV11⟩ : ∃ V, V = W5 := ⟨_, rfl⟩
          subst hV11
--TAIL W5
          have HYN : Hd (Sl (fun b => b < w.heap.size) V11 (.slice sa y.d.length sc) (u8s y.d)) := hid (by rw [HYD.out.2.2.2.2]; exact HY.out)
          clear HY
          have HY := HYN
          clear HYN
          replace HYB : Hd (∀ c ∈ y.d, c < 256) := hid (by rw [HYD.out.2.2.2.2]; exact HYB.out)
          replace HY32 : Hd (y.s < 4294967296) := hid (by rw [HYD.out.2.2.2.1]; exact HY32.out)
          clear hT HYD HT0; try clear t1; try clear t2
          have HPC : Hd (PartR (fun b => b < V11.heap.size) V11 (W1.heap.size) M) := hid (HP.out.mono (fun b hb _ => hb))
          clear HP
          have HP := HPC
          clear HPC
          go_wp2_with fail
          refine (Clone_any _ _ M _ HP.out HOK.out).mono ?_
          rintro e W6 ⟨pq, rfl, hpq, hk⟩
          have HQ := hid hpq
          clear hpq
          have HN' : Hd (NibF W6) := hid (HN.out.keep hk (fun _ _ _ h => h))
          have H1' : Hd (Sl (fun b => b < w.heap.size) W6 v1 (u8s l1)) := hid (H1.out.keep hk (fun _ _ _ h => h))
          have HS' : Hd (Sl (fun b => b < w.heap.size) W6 vs (i64s sizes)) := hid (HS.out.keep hk (fun _ _ _ h => h))
          have HO' : Hd (Sl (fun b => b < w.heap.size) W6 vo (i64s order)) := hid (HO.out.keep hk (fun _ _ _ h => h))
          have HY' : Hd (Sl (fun b => b < w.heap.size) W6 (.slice sa y.d.length sc) (u8s y.d)) := hid (HY.out.keep hk (fun _ _ _ h => h))
          have BS' : Hd (Blk W6 w.heap.size #[(.int .i64 y.f), (.int .i64 y.o), (.int .i64 y.t), (.int .u32 (y.s : Int)), (.slice sa y.d.length sc)] 44) := hid (blk_keep BS.out hk (fun h => h))
          have SM' : Hd (Sl (fun b => b < w.heap.size) W6 (.slice ma x.length mc) (u8s x)) := hid (SM.out.keep hk (fun _ _ _ h => h))
          have HP' : Hd (PartR (fun b => b < V11.heap.size) W6 (W1.heap.size) M) := hid (HP.out.keep hk (fun _ _ _ h => h))
          clear HN H1 HS HO HY BS SM HP
          have HN := HN'
          clear HN'
          have H1 := H1'
          clear H1'
          have HS := HS'
          clear HS'
          have HO := HO'
          clear HO'
          have HY := HY'
          clear HY'
          have BS := BS'
          clear BS'
          have SM := SM'
          clear SM'
          have HP := HP'
          clear HP'
          have HK' : Hd (Keeps (fun _ => False) w W6) := hid (HK.out.trans hk)
          clear HK
          have HK := HK'
          clear HK'
          have z_W6 := hk.size
          clear hk
          obtain ⟨e0, he0⟩ : ∃ e0, putE M y = e0 := ⟨_, rfl⟩
          obtain ⟨M2, hM2⟩ : ∃ M2, putM M y = M2 := ⟨_, rfl⟩
          have HE0 := hid he0; have HM2 := hid hM2; have HOK2 : Hd M2.ok := hid (by rw [← hM2]; exact putM_ok HOK.out HY32.out HYB.out)
          have HAG : Hd (e0 = 0 → putE M2 y = 0 ∧ M2.kn = true) := hid (fun h => by rw [← hM2]; exact ⟨put_again HOK.out HY32.out (by rw [he0]; exact h), putM_kn (by rw [he0]; exact h)⟩)
          have HSM : Hd (e0 ≠ 0 → M2 = M) := hid (fun h => by rw [← hM2]; exact putM_same HOK.out (by rw [he0]; exact h))
          clear he0 hM2
          go_upto_region 16 with fail
          have o_BS_0 : W6.cell? ⟨w.heap.size, 0, none⟩ = some ((.int .i64 y.f)) := blk_cell BS.out 0
          have o_BS_1 : W6.cell? ⟨w.heap.size, 1, none⟩ = some ((.int .i64 y.o)) := blk_cell BS.out 1
          have o_BS_2 : W6.cell? ⟨w.heap.size, 2, none⟩ = some ((.int .i64 y.t)) := blk_cell BS.out 2
          have o_BS_3 : W6.cell? ⟨w.heap.size, 3, none⟩ = some ((.int .u32 (y.s : Int))) := blk_cell BS.out 3
          have o_BS_4 : W6.cell? ⟨w.heap.size, 4, none⟩ = some ((.slice sa y.d.length sc)) := blk_cell BS.out 4
          go_wp2_with fail
          refine (Put_any _ _ M y sa sc _ HQ.out HOK.out (HY.out.mono (fun b hb h => ⟨by omega, hb⟩)) HYB.out HY32.out).mono ?_
          rintro e V16 ⟨rfl, hq2, hk⟩
          rw [HE0.out]
          rw [HM2.out] at hq2
          have HQN := hid (hq2.mono (Z' := fun b => V11.heap.size ≤ b) (fun b _ h => by rcases h with h | h <;> omega))
          clear hq2 HQ
          clear o_BS_0 o_BS_1 o_BS_2 o_BS_3 o_BS_4
          have HN' : Hd (NibF V16) := hid (HN.out.keep hk (fun b h1 h2 h3 => by omega))
          have H1' : Hd (Sl (fun b => b < w.heap.size) V16 v1 (u8s l1)) := hid (H1.out.keep hk (fun b h1 h2 h3 => by omega))
          have HS' : Hd (Sl (fun b => b < w.heap.size) V16 vs (i64s sizes)) := hid (HS.out.keep hk (fun b h1 h2 h3 => by omega))
          have HO' : Hd (Sl (fun b => b < w.heap.size) V16 vo (i64s order)) := hid (HO.out.keep hk (fun b h1 h2 h3 => by omega))
          have HY' : Hd (Sl (fun b => b < w.heap.size) V16 (.slice sa y.d.length sc) (u8s y.d)) := hid (HY.out.keep hk (fun b h1 h2 h3 => by omega))
          have BS' : Hd (Blk V16 w.heap.size #[(.int .i64 y.f), (.int .i64 y.o), (.int .i64 y.t), (.int .u32 (y.s : Int)), (.slice sa y.d.length sc)] 44) := hid (blk_keep BS.out hk (fun h => by omega))
          have SM' : Hd (Sl (fun b => b < w.heap.size) V16 (.slice ma x.length mc) (u8s x)) := hid (SM.out.keep hk (fun b h1 h2 h3 => by omega))
          have HP' : Hd (PartR (fun b => b < V11.heap.size) V16 (W1.heap.size) M) := hid (HP.out.keep hk (fun b h1 h2 h3 => by omega))
          clear HN H1 HS HO HY BS SM HP
          have HN := HN'
          clear HN'
          have H1 := H1'
          clear H1'
          have HS := HS'
          clear HS'
          have HO := HO'
          clear HO'
          have HY := HY'
          clear HY'
          have BS := BS'
          clear BS'
          have SM := SM'
          clear SM'
          have HP := HP'
          clear HP'
          have HK' : Hd (Keeps (fun _ => False) w V16) := hid (HK.out.trans' hk (fun i hi h => by omega))
          clear HK
          have HK := HK'
          clear HK'
          have z_V16 := hk.size
          clear hk
          have HQ := HQN
          clear HQN
          obtain ⟨b1, hb1⟩ : ∃ b1, (bytesM M) = b1 := ⟨_, rfl⟩
          obtain ⟨b2, hb2⟩ : ∃ b2, (bytesM M2) = b2 := ⟨_, rfl⟩
          have HB1 := hid hb1; have HB2 := hid hb2
          clear hb1 hb2
          go_wp2_with fail
          refine (Bytes_any _ _ M _ HN.out HP.out HOK.out).mono ?_
          rw [HB1.out]
          rintro e W7 ⟨ba1, bc1, rfl, hbo, hk⟩
          have SB1 : Hd (Sl (fun _ => True) _ (.slice ba1 b1.1.length bc1) (u8s b1.1)) := hid (row_sl (hbo.row.mono (fun _ _ _ => trivial)) (by simp))
          clear hbo
          have HN' : Hd (NibF W7) := hid (HN.out.keep hk (fun _ _ _ h => h))
          have H1' : Hd (Sl (fun b => b < w.heap.size) W7 v1 (u8s l1)) := hid (H1.out.keep hk (fun _ _ _ h => h))
          have HS' : Hd (Sl (fun b => b < w.heap.size) W7 vs (i64s sizes)) := hid (HS.out.keep hk (fun _ _ _ h => h))
          have HO' : Hd (Sl (fun b => b < w.heap.size) W7 vo (i64s order)) := hid (HO.out.keep hk (fun _ _ _ h => h))
          have HY' : Hd (Sl (fun b => b < w.heap.size) W7 (.slice sa y.d.length sc) (u8s y.d)) := hid (HY.out.keep hk (fun _ _ _ h => h))
          have BS' : Hd (Blk W7 w.heap.size #[(.int .i64 y.f), (.int .i64 y.o), (.int .i64 y.t), (.int .u32 (y.s : Int)), (.slice sa y.d.length sc)] 44) := hid (blk_keep BS.out hk (fun h => h))
          have SM' : Hd (Sl (fun b => b < w.heap.size) W7 (.slice ma x.length mc) (u8s x)) := hid (SM.out.keep hk (fun _ _ _ h => h))
          have HP' : Hd (PartR (fun b => b < V11.heap.size) W7 (W1.heap.size) M) := hid (HP.out.keep hk (fun _ _ _ h => h))
          have HQ' : Hd (PartR (fun b => V11.heap.size ≤ b) W7 pq M2) := hid (HQ.out.keep hk (fun _ _ _ h => h))
          clear HN H1 HS HO HY BS SM HP HQ
          have HN := HN'
          clear HN'
          have H1 := H1'
          clear H1'
          have HS := HS'
          clear HS'
          have HO := HO'
          clear HO'
          have HY := HY'
          clear HY'
          have BS := BS'
          clear BS'
          have SM := SM'
          clear SM'
          have HP := HP'
          clear HP'
          have HQ := HQ'
          clear HQ'
          have HK' : Hd (Keeps (fun _ => False) w W7) := hid (HK.out.trans hk)
          clear HK
          have HK := HK'
          clear HK'
          have z_W7 := hk.size
          clear hk
          go_wp2_with fail
          refine (Bytes_any _ _ M2 _ HN.out HQ.out HOK2.out).mono ?_
          rw [HB2.out]
          rintro e W8 ⟨ba2, bc2, rfl, hbo, hk⟩
          have SB2 : Hd (Sl (fun _ => True) _ (.slice ba2 b2.1.length bc2) (u8s b2.1)) := hid (row_sl (hbo.row.mono (fun _ _ _ => trivial)) (by simp))
          clear hbo
          have HN' : Hd (NibF W8) := hid (HN.out.keep hk (fun _ _ _ h => h))
          have H1' : Hd (Sl (fun b => b < w.heap.size) W8 v1 (u8s l1)) := hid (H1.out.keep hk (fun _ _ _ h => h))
          have HS' : Hd (Sl (fun b => b < w.heap.size) W8 vs (i64s sizes)) := hid (HS.out.keep hk (fun _ _ _ h => h))
          have HO' : Hd (Sl (fun b => b < w.heap.size) W8 vo (i64s order)) := hid (HO.out.keep hk (fun _ _ _ h => h))
          have HY' : Hd (Sl (fun b => b < w.heap.size) W8 (.slice sa y.d.length sc) (u8s y.d)) := hid (HY.out.keep hk (fun _ _ _ h => h))
          have BS' : Hd (Blk W8 w.heap.size #[(.int .i64 y.f), (.int .i64 y.o), (.int .i64 y.t), (.int .u32 (y.s : Int)), (.slice sa y.d.length sc)] 44) := hid (blk_keep BS.out hk (fun h => h))
          have SM' : Hd (Sl (fun b => b < w.heap.size) W8 (.slice ma x.length mc) (u8s x)) := hid (SM.out.keep hk (fun _ _ _ h => h))
          have HP' : Hd (PartR (fun b => b < V11.heap.size) W8 (W1.heap.size) M) := hid (HP.out.keep hk (fun _ _ _ h => h))
          have HQ' : Hd (PartR (fun b => V11.heap.size ≤ b) W8 pq M2) := hid (HQ.out.keep hk (fun _ _ _ h => h))
          have SB1' : Hd (Sl (fun _ => True) W8 (.slice ba1 b1.1.length bc1) (u8s b1.1)) := hid (SB1.out.keep hk (fun _ _ _ h => h))
          clear HN H1 HS HO HY BS SM HP HQ SB1
          have HN := HN'
          clear HN'
          have H1 := H1'
          clear H1'
          have HS := HS'
          clear HS'
          have HO := HO'
          clear HO'
          have HY := HY'
          clear HY'
          have BS := BS'
          clear BS'
          have SM := SM'
          clear SM'
          have HP := HP'
          clear HP'
          have HQ := HQ'
          clear HQ'
          have SB1 := SB1'
          clear SB1'
          have HK' : Hd (Keeps (fun _ => False) w W8) := hid (HK.out.trans hk)
          clear HK
          have HK := HK'
          clear HK'
          have z_W8 := hk.size
          clear hk
          by_cases hz0 : e0 = 0
          · clear SB1 SB2
            subst hz0
            obtain ⟨ag1, ag2⟩ := HAG.out rfl
            have HG1 := hid ag1; have HG2 := hid ag2
            clear ag1 ag2 HSM HAG
            go_upto_region 20 with fail
            have o_BS_0 : W8.cell? ⟨w.heap.size, 0, none⟩ = some ((.int .i64 y.f)) := blk_cell BS.out 0
            have o_BS_1 : W8.cell? ⟨w.heap.size, 1, none⟩ = some ((.int .i64 y.o)) := blk_cell BS.out 1
            have o_BS_2 : W8.cell? ⟨w.heap.size, 2, none⟩ = some ((.int .i64 y.t)) := blk_cell BS.out 2
            have o_BS_3 : W8.cell? ⟨w.heap.size, 3, none⟩ = some ((.int .u32 (y.s : Int))) := blk_cell BS.out 3
            have o_BS_4 : W8.cell? ⟨w.heap.size, 4, none⟩ = some ((.slice sa y.d.length sc)) := blk_cell BS.out 4
            go_wp2_with fail
            refine (Put_any _ _ M2 y sa sc _ HQ.out HOK2.out (HY.out.mono (fun b hb h => ⟨by omega, hb⟩)) HYB.out HY32.out).mono ?_
            rintro e V20 ⟨rfl, hq2, hk⟩
            rw [HG1.out]
            have HQN := hid (hq2.mono (Z' := fun b => V11.heap.size ≤ b) (fun b _ h => by rcases h with h | h <;> omega))
            have HKN2 : Hd ((putM M2 y).kn = true) := hid (putM_kn HG1.out)
            clear hq2 HQ
            clear o_BS_0 o_BS_1 o_BS_2 o_BS_3 o_BS_4
            have HN' : Hd (NibF V20) := hid (HN.out.keep hk (fun b h1 h2 h3 => by omega))
            have H1' : Hd (Sl (fun b => b < w.heap.size) V20 v1 (u8s l1)) := hid (H1.out.keep hk (fun b h1 h2 h3 => by omega))
            have HS' : Hd (Sl (fun b => b < w.heap.size) V20 vs (i64s sizes)) := hid (HS.out.keep hk (fun b h1 h2 h3 => by omega))
            have HO' : Hd (Sl (fun b => b < w.heap.size) V20 vo (i64s order)) := hid (HO.out.keep hk (fun b h1 h2 h3 => by omega))
            have HY' : Hd (Sl (fun b => b < w.heap.size) V20 (.slice sa y.d.length sc) (u8s y.d)) := hid (HY.out.keep hk (fun b h1 h2 h3 => by omega))
            have BS' : Hd (Blk V20 w.heap.size #[(.int .i64 y.f), (.int .i64 y.o), (.int .i64 y.t), (.int .u32 (y.s : Int)), (.slice sa y.d.length sc)] 44) := hid (blk_keep BS.out hk (fun h => by omega))
            have SM' : Hd (Sl (fun b => b < w.heap.size) V20 (.slice ma x.length mc) (u8s x)) := hid (SM.out.keep hk (fun b h1 h2 h3 => by omega))
            have HP' : Hd (PartR (fun b => b < V11.heap.size) V20 (W1.heap.size) M) := hid (HP.out.keep hk (fun b h1 h2 h3 => by omega))
            clear HN H1 HS HO HY BS SM HP
            have HN := HN'
            clear HN'
            have H1 := H1'
            clear H1'
            have HS := HS'
            clear HS'
            have HO := HO'
            clear HO'
            have HY := HY'
            clear HY'
            have BS := BS'
            clear BS'
            have SM := SM'
            clear SM'
            have HP := HP'
            clear HP'
            have HK' : Hd (Keeps (fun _ => False) w V20) := hid (HK.out.trans' hk (fun i hi h => by omega))
            clear HK
            have HK := HK'
            clear HK'
            have z_V20 := hk.size
            clear hk
            have HQ := HQN
            clear HQN
            go_wp2_with fail
            refine (Known_any _ _ _ _ HQ.out).mono ?_
            rw [HKN2.out]
            rintro e wx ⟨rfl, rfl⟩
            go_wp2_with fail
            refine (Known_any _ _ _ _ HP.out).mono ?_
            rw [HKN.out]
            rintro e wx ⟨rfl, rfl⟩
            have hnn : (decide (0 < n) == decide ((0 : Int) < (n : Int))) = true := by rw [show decide ((0 : Int) < (n : Int)) = decide (0 < n) from decide_eq_decide.2 (by omega)]; exact beq_self_eq_true _
            go_wp2_with fail
            refine (lives_any _ HN.out).mono ?_
            rintro e W9 ⟨rfl, hk⟩
            have HN' : Hd (NibF W9) := hid (HN.out.keep hk (fun _ _ _ h => h))
            have H1' : Hd (Sl (fun b => b < w.heap.size) W9 v1 (u8s l1)) := hid (H1.out.keep hk (fun _ _ _ h => h))
            have HS' : Hd (Sl (fun b => b < w.heap.size) W9 vs (i64s sizes)) := hid (HS.out.keep hk (fun _ _ _ h => h))
            have HO' : Hd (Sl (fun b => b < w.heap.size) W9 vo (i64s order)) := hid (HO.out.keep hk (fun _ _ _ h => h))
            have HY' : Hd (Sl (fun b => b < w.heap.size) W9 (.slice sa y.d.length sc) (u8s y.d)) := hid (HY.out.keep hk (fun _ _ _ h => h))
            have BS' : Hd (Blk W9 w.heap.size #[(.int .i64 y.f), (.int .i64 y.o), (.int .i64 y.t), (.int .u32 (y.s : Int)), (.slice sa y.d.length sc)] 44) := hid (blk_keep BS.out hk (fun h => h))
            have SM' : Hd (Sl (fun b => b < w.heap.size) W9 (.slice ma x.length mc) (u8s x)) := hid (SM.out.keep hk (fun _ _ _ h => h))
            have HP' : Hd (PartR (fun b => b < V11.heap.size) W9 (W1.heap.size) M) := hid (HP.out.keep hk (fun _ _ _ h => h))
            have HQ' : Hd (PartR (fun b => V11.heap.size ≤ b) W9 pq (putM M2 y)) := hid (HQ.out.keep hk (fun _ _ _ h => h))
            clear HN H1 HS HO HY BS SM HP HQ
            have HN := HN'
            clear HN'
            have H1 := H1'
            clear H1'
            have HS := HS'
            clear HS'
            have HO := HO'
            clear HO'
            have HY := HY'
            clear HY'
            have BS := BS'
            clear BS'
            have SM := SM'
            clear SM'
            have HP := HP'
            clear HP'
            have HQ := HQ'
            clear HQ'
            have HK' : Hd (Keeps (fun _ => False) w W9) := hid (HK.out.trans hk)
            clear HK
            have HK := HK'
            clear HK'
            have z_W9 := hk.size
            clear hk
            go_wp2
            go_ret
            exact ⟨rfl, HK.out⟩
          · have hM := HSM.out hz0
            subst hM
            have hb12 : b2 = b1 := by rw [← HB1.out, ← HB2.out]
            subst hb12
            have heq : (e0 == 0) = false := by simpa using hz0
            clear HAG HSM HM2 HOK2
            have HBB : Hd (∀ c ∈ b2.1, c < 256) := hid (by rw [← HB1.out]; unfold bytesM; have := HOK.out.b; split; simp; split; simp; split; simp; exact this)
            have hkk : (M2.kn == M2.kn) = true := beq_self_eq_true _
            have hbb : (b2.2 == b2.2) = true := beq_self_eq_true _
            go_wp2_with fail
            refine (Known_any _ _ _ _ HQ.out).mono ?_
            rintro e wx ⟨rfl, rfl⟩
            go_wp2_with fail
            refine (Known_any _ _ _ _ HP.out).mono ?_
            rintro e wx ⟨rfl, rfl⟩
            go_wp2_with fail
            refine (SameBytes_any _ _ _ _ b2.1 b2.1 _ SB1.out SB2.out HBB.out HBB.out).mono ?_
            rw [decide_eq_true (rfl : b2.1 = b2.1)]
            rintro e wx ⟨rfl, rfl⟩
            go_wp2_with fail
            refine (Gaps_any _ _ M2 _ HP.out HOK.out).mono ?_
            rintro e W9 ⟨ga1, gc1, rfl, hgo, hk⟩
            have SG1 : Hd (Gps (fun _ => True) _ (.slice ga1 (gapsM M2).length gc1) (gapsM M2)) := hid (hgo.row.mono (fun _ _ _ => trivial))
            clear hgo
            have HN' : Hd (NibF W9) := hid (HN.out.keep hk (fun _ _ _ h => h))
            have H1' : Hd (Sl (fun b => b < w.heap.size) W9 v1 (u8s l1)) := hid (H1.out.keep hk (fun _ _ _ h => h))
            have HS' : Hd (Sl (fun b => b < w.heap.size) W9 vs (i64s sizes)) := hid (HS.out.keep hk (fun _ _ _ h => h))
            have HO' : Hd (Sl (fun b => b < w.heap.size) W9 vo (i64s order)) := hid (HO.out.keep hk (fun _ _ _ h => h))
            have HY' : Hd (Sl (fun b => b < w.heap.size) W9 (.slice sa y.d.length sc) (u8s y.d)) := hid (HY.out.keep hk (fun _ _ _ h => h))
            have BS' : Hd (Blk W9 w.heap.size #[(.int .i64 y.f), (.int .i64 y.o), (.int .i64 y.t), (.int .u32 (y.s : Int)), (.slice sa y.d.length sc)] 44) := hid (blk_keep BS.out hk (fun h => h))
            have SM' : Hd (Sl (fun b => b < w.heap.size) W9 (.slice ma x.length mc) (u8s x)) := hid (SM.out.keep hk (fun _ _ _ h => h))
            have HP' : Hd (PartR (fun b => b < V11.heap.size) W9 (W1.heap.size) M2) := hid (HP.out.keep hk (fun _ _ _ h => h))
            have HQ' : Hd (PartR (fun b => V11.heap.size ≤ b) W9 pq M2) := hid (HQ.out.keep hk (fun _ _ _ h => h))
            have SB1' : Hd (Sl (fun _ => True) W9 (.slice ba1 b2.1.length bc1) (u8s b2.1)) := hid (SB1.out.keep hk (fun _ _ _ h => h))
            have SB2' : Hd (Sl (fun _ => True) W9 (.slice ba2 b2.1.length bc2) (u8s b2.1)) := hid (SB2.out.keep hk (fun _ _ _ h => h))
            clear HN H1 HS HO HY BS SM HP HQ SB1 SB2
            have HN := HN'
            clear HN'
            have H1 := H1'
            clear H1'
            have HS := HS'
            clear HS'
            have HO := HO'
            clear HO'
            have HY := HY'
            clear HY'
            have BS := BS'
            clear BS'
            have SM := SM'
            clear SM'
            have HP := HP'
            clear HP'
            have HQ := HQ'
            clear HQ'
            have SB1 := SB1'
            clear SB1'
            have SB2 := SB2'
            clear SB2'
            have HK' : Hd (Keeps (fun _ => False) w W9) := hid (HK.out.trans hk)
            clear HK
            have HK := HK'
            clear HK'
            have z_W9 := hk.size
            clear hk
            go_wp2_with fail
            refine (Gaps_any _ _ M2 _ HQ.out HOK.out).mono ?_
            rintro e W10 ⟨ga2, gc2, rfl, hgo, hk⟩
            have SG2 : Hd (Gps (fun _ => True) _ (.slice ga2 (gapsM M2).length gc2) (gapsM M2)) := hid (hgo.row.mono (fun _ _ _ => trivial))
            clear hgo
            have HN' : Hd (NibF W10) := hid (HN.out.keep hk (fun _ _ _ h => h))
            have H1' : Hd (Sl (fun b => b < w.heap.size) W10 v1 (u8s l1)) := hid (H1.out.keep hk (fun _ _ _ h => h))
            have HS' : Hd (Sl (fun b => b < w.heap.size) W10 vs (i64s sizes)) := hid (HS.out.keep hk (fun _ _ _ h => h))
            have HO' : Hd (Sl (fun b => b < w.heap.size) W10 vo (i64s order)) := hid (HO.out.keep hk (fun _ _ _ h => h))
            have HY' : Hd (Sl (fun b => b < w.heap.size) W10 (.slice sa y.d.length sc) (u8s y.d)) := hid (HY.out.keep hk (fun _ _ _ h => h))
            have BS' : Hd (Blk W10 w.heap.size #[(.int .i64 y.f), (.int .i64 y.o), (.int .i64 y.t), (.int .u32 (y.s : Int)), (.slice sa y.d.length sc)] 44) := hid (blk_keep BS.out hk (fun h => h))
            have SM' : Hd (Sl (fun b => b < w.heap.size) W10 (.slice ma x.length mc) (u8s x)) := hid (SM.out.keep hk (fun _ _ _ h => h))
            have HP' : Hd (PartR (fun b => b < V11.heap.size) W10 (W1.heap.size) M2) := hid (HP.out.keep hk (fun _ _ _ h => h))
            have HQ' : Hd (PartR (fun b => V11.heap.size ≤ b) W10 pq M2) := hid (HQ.out.keep hk (fun _ _ _ h => h))
            have SB1' : Hd (Sl (fun _ => True) W10 (.slice ba1 b2.1.length bc1) (u8s b2.1)) := hid (SB1.out.keep hk (fun _ _ _ h => h))
            have SB2' : Hd (Sl (fun _ => True) W10 (.slice ba2 b2.1.length bc2) (u8s b2.1)) := hid (SB2.out.keep hk (fun _ _ _ h => h))
            have SG1' : Hd (Gps (fun _ => True) W10 (.slice ga1 (gapsM M2).length gc1) (gapsM M2)) := hid (SG1.out.keep hk (fun _ _ _ h => h))
            clear HN H1 HS HO HY BS SM HP HQ SB1 SB2 SG1
            have HN := HN'
            clear HN'
            have H1 := H1'
            clear H1'
            have HS := HS'
            clear HS'
            have HO := HO'
            clear HO'
            have HY := HY'
            clear HY'
            have BS := BS'
            clear BS'
            have SM := SM'
            clear SM'
            have HP := HP'
            clear HP'
            have HQ := HQ'
            clear HQ'
            have SB1 := SB1'
            clear SB1'
            have SB2 := SB2'
            clear SB2'
            have SG1 := SG1'
            clear SG1'
            have HK' : Hd (Keeps (fun _ => False) w W10) := hid (HK.out.trans hk)
            clear HK
            have HK := HK'
            clear HK'
            have z_W10 := hk.size
            clear hk
            go_wp2_with fail
            refine (SameGaps_any _ _ _ _ (gapsM M2) _ SG1.out SG2.out).mono ?_
            rintro e W11 ⟨rfl, hk⟩
            have HN' : Hd (NibF W11) := hid (HN.out.keep hk (fun _ _ _ h => h))
            have H1' : Hd (Sl (fun b => b < w.heap.size) W11 v1 (u8s l1)) := hid (H1.out.keep hk (fun _ _ _ h => h))
            have HS' : Hd (Sl (fun b => b < w.heap.size) W11 vs (i64s sizes)) := hid (HS.out.keep hk (fun _ _ _ h => h))
            have HO' : Hd (Sl (fun b => b < w.heap.size) W11 vo (i64s order)) := hid (HO.out.keep hk (fun _ _ _ h => h))
            have HY' : Hd (Sl (fun b => b < w.heap.size) W11 (.slice sa y.d.length sc) (u8s y.d)) := hid (HY.out.keep hk (fun _ _ _ h => h))
            have BS' : Hd (Blk W11 w.heap.size #[(.int .i64 y.f), (.int .i64 y.o), (.int .i64 y.t), (.int .u32 (y.s : Int)), (.slice sa y.d.length sc)] 44) := hid (blk_keep BS.out hk (fun h => h))
            have SM' : Hd (Sl (fun b => b < w.heap.size) W11 (.slice ma x.length mc) (u8s x)) := hid (SM.out.keep hk (fun _ _ _ h => h))
            have HP' : Hd (PartR (fun b => b < V11.heap.size) W11 (W1.heap.size) M2) := hid (HP.out.keep hk (fun _ _ _ h => h))
            have HQ' : Hd (PartR (fun b => V11.heap.size ≤ b) W11 pq M2) := hid (HQ.out.keep hk (fun _ _ _ h => h))
            have SB1' : Hd (Sl (fun _ => True) W11 (.slice ba1 b2.1.length bc1) (u8s b2.1)) := hid (SB1.out.keep hk (fun _ _ _ h => h))
            have SB2' : Hd (Sl (fun _ => True) W11 (.slice ba2 b2.1.length bc2) (u8s b2.1)) := hid (SB2.out.keep hk (fun _ _ _ h => h))
            have SG1' : Hd (Gps (fun _ => True) W11 (.slice ga1 (gapsM M2).length gc1) (gapsM M2)) := hid (SG1.out.keep hk (fun _ _ _ h => h))
            have SG2' : Hd (Gps (fun _ => True) W11 (.slice ga2 (gapsM M2).length gc2) (gapsM M2)) := hid (SG2.out.keep hk (fun _ _ _ h => h))
            clear HN H1 HS HO HY BS SM HP HQ SB1 SB2 SG1 SG2
            have HN := HN'
            clear HN'
            have H1 := H1'
            clear H1'
            have HS := HS'
            clear HS'
            have HO := HO'
            clear HO'
            have HY := HY'
            clear HY'
            have BS := BS'
            clear BS'
            have SM := SM'
            clear SM'
            have HP := HP'
            clear HP'
            have HQ := HQ'
            clear HQ'
            have SB1 := SB1'
            clear SB1'
            have SB2 := SB2'
            clear SB2'
            have SG1 := SG1'
            clear SG1'
            have SG2 := SG2'
            clear SG2'
            have HK' : Hd (Keeps (fun _ => False) w W11) := hid (HK.out.trans hk)
            clear HK
            have HK := HK'
            clear HK'
            have z_W11 := hk.size
            clear hk
            go_wp2_with fail
            refine (lives_any _ HN.out).mono ?_
            rintro e W12 ⟨rfl, hk⟩
            have HN' : Hd (NibF W12) := hid (HN.out.keep hk (fun _ _ _ h => h))
            have H1' : Hd (Sl (fun b => b < w.heap.size) W12 v1 (u8s l1)) := hid (H1.out.keep hk (fun _ _ _ h => h))
            have HS' : Hd (Sl (fun b => b < w.heap.size) W12 vs (i64s sizes)) := hid (HS.out.keep hk (fun _ _ _ h => h))
            have HO' : Hd (Sl (fun b => b < w.heap.size) W12 vo (i64s order)) := hid (HO.out.keep hk (fun _ _ _ h => h))
            have HY' : Hd (Sl (fun b => b < w.heap.size) W12 (.slice sa y.d.length sc) (u8s y.d)) := hid (HY.out.keep hk (fun _ _ _ h => h))
            have BS' : Hd (Blk W12 w.heap.size #[(.int .i64 y.f), (.int .i64 y.o), (.int .i64 y.t), (.int .u32 (y.s : Int)), (.slice sa y.d.length sc)] 44) := hid (blk_keep BS.out hk (fun h => h))
            have SM' : Hd (Sl (fun b => b < w.heap.size) W12 (.slice ma x.length mc) (u8s x)) := hid (SM.out.keep hk (fun _ _ _ h => h))
            have HP' : Hd (PartR (fun b => b < V11.heap.size) W12 (W1.heap.size) M2) := hid (HP.out.keep hk (fun _ _ _ h => h))
            have HQ' : Hd (PartR (fun b => V11.heap.size ≤ b) W12 pq M2) := hid (HQ.out.keep hk (fun _ _ _ h => h))
            have SB1' : Hd (Sl (fun _ => True) W12 (.slice ba1 b2.1.length bc1) (u8s b2.1)) := hid (SB1.out.keep hk (fun _ _ _ h => h))
            have SB2' : Hd (Sl (fun _ => True) W12 (.slice ba2 b2.1.length bc2) (u8s b2.1)) := hid (SB2.out.keep hk (fun _ _ _ h => h))
            have SG1' : Hd (Gps (fun _ => True) W12 (.slice ga1 (gapsM M2).length gc1) (gapsM M2)) := hid (SG1.out.keep hk (fun _ _ _ h => h))
            have SG2' : Hd (Gps (fun _ => True) W12 (.slice ga2 (gapsM M2).length gc2) (gapsM M2)) := hid (SG2.out.keep hk (fun _ _ _ h => h))
            clear HN H1 HS HO HY BS SM HP HQ SB1 SB2 SG1 SG2
            have HN := HN'
            clear HN'
            have H1 := H1'
            clear H1'
            have HS := HS'
            clear HS'
            have HO := HO'
            clear HO'
            have HY := HY'
            clear HY'
            have BS := BS'
            clear BS'
            have SM := SM'
            clear SM'
            have HP := HP'
            clear HP'
            have HQ := HQ'
            clear HQ'
            have SB1 := SB1'
            clear SB1'
            have SB2 := SB2'
            clear SB2'
            have SG1 := SG1'
            clear SG1'
            have SG2 := SG2'
            clear SG2'
            have HK' : Hd (Keeps (fun _ => False) w W12) := hid (HK.out.trans hk)
            clear HK
            have HK := HK'
            clear HK'
            have z_W12 := hk.size
            clear hk
            go_wp2
            go_ret
            exact ⟨rfl, HK.out⟩
        · skip
          have eT : t0 = T0 := by rw [hT.out, if_neg (fun h => by omega)]
          subst eT
          have o_BS_2 : W4.cell? ⟨w.heap.size, 2, none⟩ = some ((.int .i64 t0)) := blk_cell BS.out 2
          have f_BS_2 : W4.frozen? ⟨w.heap.size, 2, none⟩ = false := blk_free BS.out 2
          go_upto_region 13 with fail
          clear o_BS_2 f_BS_2
          have BSN : Hd (Blk W4 w.heap.size #[.int .i64 y.f, .int .i64 y.o, .int .i64 y.t, .int .u32 (y.s : Int), .slice sa y.d.length sc] 44) := hid (by obtain ⟨d0, d1, d2, d3, d4⟩ := HYD.out; rw [d0, d1, d2, d3, d4]; exact BS.out)
          clear BS
          have BS := BSN
          clear BSN
          obtain ⟨V11, hV11⟩ : ∃ V, V = W4 := ⟨_, rfl⟩
          subst hV11
--TAIL W4
          have HYN : Hd (Sl (fun b => b < w.heap.size) V11 (.slice sa y.d.length sc) (u8s y.d)) := hid (by rw [HYD.out.2.2.2.2]; exact HY.out)
          clear HY
          have HY := HYN
          clear HYN
          replace HYB : Hd (∀ c ∈ y.d, c < 256) := hid (by rw [HYD.out.2.2.2.2]; exact HYB.out)
          replace HY32 : Hd (y.s < 4294967296) := hid (by rw [HYD.out.2.2.2.1]; exact HY32.out)
          clear hT HYD HT0; try clear t1; try clear t2
          have HPC : Hd (PartR (fun b => b < V11.heap.size) V11 (W1.heap.size) M) := hid (HP.out.mono (fun b hb _ => hb))
          clear HP
          have HP := HPC
          clear HPC
          go_wp2_with fail
          refine (Clone_any _ _ M _ HP.out HOK.out).mono ?_
          rintro e W5 ⟨pq, rfl, hpq, hk⟩
          have HQ := hid hpq
          clear hpq
          have HN' : Hd (NibF W5) := hid (HN.out.keep hk (fun _ _ _ h => h))
          have H1' : Hd (Sl (fun b => b < w.heap.size) W5 v1 (u8s l1)) := hid (H1.out.keep hk (fun _ _ _ h => h))
          have HS' : Hd (Sl (fun b => b < w.heap.size) W5 vs (i64s sizes)) := hid (HS.out.keep hk (fun _ _ _ h => h))
          have HO' : Hd (Sl (fun b => b < w.heap.size) W5 vo (i64s order)) := hid (HO.out.keep hk (fun _ _ _ h => h))
          have HY' : Hd (Sl (fun b => b < w.heap.size) W5 (.slice sa y.d.length sc) (u8s y.d)) := hid (HY.out.keep hk (fun _ _ _ h => h))
          have BS' : Hd (Blk W5 w.heap.size #[(.int .i64 y.f), (.int .i64 y.o), (.int .i64 y.t), (.int .u32 (y.s : Int)), (.slice sa y.d.length sc)] 44) := hid (blk_keep BS.out hk (fun h => h))
          have SM' : Hd (Sl (fun b => b < w.heap.size) W5 (.slice ma x.length mc) (u8s x)) := hid (SM.out.keep hk (fun _ _ _ h => h))
          have HP' : Hd (PartR (fun b => b < V11.heap.size) W5 (W1.heap.size) M) := hid (HP.out.keep hk (fun _ _ _ h => h))
          clear HN H1 HS HO HY BS SM HP
          have HN := HN'
          clear HN'
          have H1 := H1'
          clear H1'
          have HS := HS'
          clear HS'
          have HO := HO'
          clear HO'
          have HY := HY'
          clear HY'
          have BS := BS'
          clear BS'
          have SM := SM'
          clear SM'
          have HP := HP'
          clear HP'
          have HK' : Hd (Keeps (fun _ => False) w W5) := hid (HK.out.trans hk)
          clear HK
          have HK := HK'
          clear HK'
          have z_W5 := hk.size
          clear hk
          obtain ⟨e0, he0⟩ : ∃ e0, putE M y = e0 := ⟨_, rfl⟩
          obtain ⟨M2, hM2⟩ : ∃ M2, putM M y = M2 := ⟨_, rfl⟩
          have HE0 := hid he0; have HM2 := hid hM2; have HOK2 : Hd M2.ok := hid (by rw [← hM2]; exact putM_ok HOK.out HY32.out HYB.out)
          have HAG : Hd (e0 = 0 → putE M2 y = 0 ∧ M2.kn = true) := hid (fun h => by rw [← hM2]; exact ⟨put_again HOK.out HY32.out (by rw [he0]; exact h), putM_kn (by rw [he0]; exact h)⟩)
          have HSM : Hd (e0 ≠ 0 → M2 = M) := hid (fun h => by rw [← hM2]; exact putM_same HOK.out (by rw [he0]; exact h))
          clear he0 hM2
          go_upto_region 16 with fail
          have o_BS_0 : W5.cell? ⟨w.heap.size, 0, none⟩ = some ((.int .i64 y.f)) := blk_cell BS.out 0
          have o_BS_1 : W5.cell? ⟨w.heap.size, 1, none⟩ = some ((.int .i64 y.o)) := blk_cell BS.out 1
          have o_BS_2 : W5.cell? ⟨w.heap.size, 2, none⟩ = some ((.int .i64 y.t)) := blk_cell BS.out 2
          have o_BS_3 : W5.cell? ⟨w.heap.size, 3, none⟩ = some ((.int .u32 (y.s : Int))) := blk_cell BS.out 3
          have o_BS_4 : W5.cell? ⟨w.heap.size, 4, none⟩ = some ((.slice sa y.d.length sc)) := blk_cell BS.out 4
          go_wp2_with fail
          refine (Put_any _ _ M y sa sc _ HQ.out HOK.out (HY.out.mono (fun b hb h => ⟨by omega, hb⟩)) HYB.out HY32.out).mono ?_
          rintro e V16 ⟨rfl, hq2, hk⟩
          rw [HE0.out]
          rw [HM2.out] at hq2
          have HQN := hid (hq2.mono (Z' := fun b => V11.heap.size ≤ b) (fun b _ h => by rcases h with h | h <;> omega))
          clear hq2 HQ
          clear o_BS_0 o_BS_1 o_BS_2 o_BS_3 o_BS_4
          have HN' : Hd (NibF V16) := hid (HN.out.keep hk (fun b h1 h2 h3 => by omega))
          have H1' : Hd (Sl (fun b => b < w.heap.size) V16 v1 (u8s l1)) := hid (H1.out.keep hk (fun b h1 h2 h3 => by omega))
          have HS' : Hd (Sl (fun b => b < w.heap.size) V16 vs (i64s sizes)) := hid (HS.out.keep hk (fun b h1 h2 h3 => by omega))
          have HO' : Hd (Sl (fun b => b < w.heap.size) V16 vo (i64s order)) := hid (HO.out.keep hk (fun b h1 h2 h3 => by omega))
          have HY' : Hd (Sl (fun b => b < w.heap.size) V16 (.slice sa y.d.length sc) (u8s y.d)) := hid (HY.out.keep hk (fun b h1 h2 h3 => by omega))
          have BS' : Hd (Blk V16 w.heap.size #[(.int .i64 y.f), (.int .i64 y.o), (.int .i64 y.t), (.int .u32 (y.s : Int)), (.slice sa y.d.length sc)] 44) := hid (blk_keep BS.out hk (fun h => by omega))
          have SM' : Hd (Sl (fun b => b < w.heap.size) V16 (.slice ma x.length mc) (u8s x)) := hid (SM.out.keep hk (fun b h1 h2 h3 => by omega))
          have HP' : Hd (PartR (fun b => b < V11.heap.size) V16 (W1.heap.size) M) := hid (HP.out.keep hk (fun b h1 h2 h3 => by omega))
          clear HN H1 HS HO HY BS SM HP
          have HN := HN'
          clear HN'
          have H1 := H1'
          clear H1'
          have HS := HS'
          clear HS'
          have HO := HO'
          clear HO'
          have HY := HY'
          clear HY'
          have BS := BS'
          clear BS'
          have SM := SM'
          clear SM'
          have HP := HP'
          clear HP'
          have HK' : Hd (Keeps (fun _ => False) w V16) := hid (HK.out.trans' hk (fun i hi h => by omega))
          clear HK
          have HK := HK'
          clear HK'
          have z_V16 := hk.size
          clear hk
          have HQ := HQN
          clear HQN
          obtain ⟨b1, hb1⟩ : ∃ b1, (bytesM M) = b1 := ⟨_, rfl⟩
          obtain ⟨b2, hb2⟩ : ∃ b2, (bytesM M2) = b2 := ⟨_, rfl⟩
          have HB1 := hid hb1; have HB2 := hid hb2
          clear hb1 hb2
          go_wp2_with fail
          refine (Bytes_any _ _ M _ HN.out HP.out HOK.out).mono ?_
          rw [HB1.out]
          rintro e W6 ⟨ba1, bc1, rfl, hbo, hk⟩
          have SB1 : Hd (Sl (fun _ => True) _ (.slice ba1 b1.1.length bc1) (u8s b1.1)) := hid (row_sl (hbo.row.mono (fun _ _ _ => trivial)) (by simp))
          clear hbo
          have HN' : Hd (NibF W6) := hid (HN.out.keep hk (fun _ _ _ h => h))
          have H1' : Hd (Sl (fun b => b < w.heap.size) W6 v1 (u8s l1)) := hid (H1.out.keep hk (fun _ _ _ h => h))
          have HS' : Hd (Sl (fun b => b < w.heap.size) W6 vs (i64s sizes)) := hid (HS.out.keep hk (fun _ _ _ h => h))
          have HO' : Hd (Sl (fun b => b < w.heap.size) W6 vo (i64s order)) := hid (HO.out.keep hk (fun _ _ _ h => h))
          have HY' : Hd (Sl (fun b => b < w.heap.size) W6 (.slice sa y.d.length sc) (u8s y.d)) := hid (HY.out.keep hk (fun _ _ _ h => h))
          have BS' : Hd (Blk W6 w.heap.size #[(.int .i64 y.f), (.int .i64 y.o), (.int .i64 y.t), (.int .u32 (y.s : Int)), (.slice sa y.d.length sc)] 44) := hid (blk_keep BS.out hk (fun h => h))
          have SM' : Hd (Sl (fun b => b < w.heap.size) W6 (.slice ma x.length mc) (u8s x)) := hid (SM.out.keep hk (fun _ _ _ h => h))
          have HP' : Hd (PartR (fun b => b < V11.heap.size) W6 (W1.heap.size) M) := hid (HP.out.keep hk (fun _ _ _ h => h))
          have HQ' : Hd (PartR (fun b => V11.heap.size ≤ b) W6 pq M2) := hid (HQ.out.keep hk (fun _ _ _ h => h))
          clear HN H1 HS HO HY BS SM HP HQ
          have HN := HN'
          clear HN'
          have H1 := H1'
          clear H1'
          have HS := HS'
          clear HS'
          have HO := HO'
          clear HO'
          have HY := HY'
          clear HY'
          have BS := BS'
          clear BS'
          have SM := SM'
          clear SM'
          have HP := HP'
          clear HP'
          have HQ := HQ'
          clear HQ'
          have HK' : Hd (Keeps (fun _ => False) w W6) := hid (HK.out.trans hk)
          clear HK
          have HK := HK'
          clear HK'
          have z_W6 := hk.size
          clear hk
          go_wp2_with fail
          refine (Bytes_any _ _ M2 _ HN.out HQ.out HOK2.out).mono ?_
          rw [HB2.out]
          rintro e W7 ⟨ba2, bc2, rfl, hbo, hk⟩
          have SB2 : Hd (Sl (fun _ => True) _ (.slice ba2 b2.1.length bc2) (u8s b2.1)) := hid (row_sl (hbo.row.mono (fun _ _ _ => trivial)) (by simp))
          clear hbo
          have HN' : Hd (NibF W7) := hid (HN.out.keep hk (fun _ _ _ h => h))
          have H1' : Hd (Sl (fun b => b < w.heap.size) W7 v1 (u8s l1)) := hid (H1.out.keep hk (fun _ _ _ h => h))
          have HS' : Hd (Sl (fun b => b < w.heap.size) W7 vs (i64s sizes)) := hid (HS.out.keep hk (fun _ _ _ h => h))
          have HO' : Hd (Sl (fun b => b < w.heap.size) W7 vo (i64s order)) := hid (HO.out.keep hk (fun _ _ _ h => h))
          have HY' : Hd (Sl (fun b => b < w.heap.size) W7 (.slice sa y.d.length sc) (u8s y.d)) := hid (HY.out.keep hk (fun _ _ _ h => h))
          have BS' : Hd (Blk W7 w.heap.size #[(.int .i64 y.f), (.int .i64 y.o), (.int .i64 y.t), (.int .u32 (y.s : Int)), (.slice sa y.d.length sc)] 44) := hid (blk_keep BS.out hk (fun h => h))
          have SM' : Hd (Sl (fun b => b < w.heap.size) W7 (.slice ma x.length mc) (u8s x)) := hid (SM.out.keep hk (fun _ _ _ h => h))
          have HP' : Hd (PartR (fun b => b < V11.heap.size) W7 (W1.heap.size) M) := hid (HP.out.keep hk (fun _ _ _ h => h))
          have HQ' : Hd (PartR (fun b => V11.heap.size ≤ b) W7 pq M2) := hid (HQ.out.keep hk (fun _ _ _ h => h))
          have SB1' : Hd (Sl (fun _ => True) W7 (.slice ba1 b1.1.length bc1) (u8s b1.1)) := hid (SB1.out.keep hk (fun _ _ _ h => h))
          clear HN H1 HS HO HY BS SM HP HQ SB1
          have HN := HN'
          clear HN'
          have H1 := H1'
          clear H1'
          have HS := HS'
          clear HS'
          have HO := HO'
          clear HO'
          have HY := HY'
          clear HY'
          have BS := BS'
          clear BS'
          have SM := SM'
          clear SM'
          have HP := HP'
          clear HP'
          have HQ := HQ'
          clear HQ'
          have SB1 := SB1'
          clear SB1'
          have HK' : Hd (Keeps (fun _ => False) w W7) := hid (HK.out.trans hk)
          clear HK
          have HK := HK'
          clear HK'
          have z_W7 := hk.size
          clear hk
          by_cases hz0 : e0 = 0
          · clear SB1 SB2
            subst hz0
            obtain ⟨ag1, ag2⟩ := HAG.out rfl
            have HG1 := hid ag1; have HG2 := hid ag2
            clear ag1 ag2 HSM HAG
            go_upto_region 20 with fail
            have o_BS_0 : W7.cell? ⟨w.heap.size, 0, none⟩ = some ((.int .i64 y.f)) := blk_cell BS.out 0
            have o_BS_1 : W7.cell? ⟨w.heap.size, 1, none⟩ = some ((.int .i64 y.o)) := blk_cell BS.out 1
            have o_BS_2 : W7.cell? ⟨w.heap.size, 2, none⟩ = some ((.int .i64 y.t)) := blk_cell BS.out 2
            have o_BS_3 : W7.cell? ⟨w.heap.size, 3, none⟩ = some ((.int .u32 (y.s : Int))) := blk_cell BS.out 3
            have o_BS_4 : W7.cell? ⟨w.heap.size, 4, none⟩ = some ((.slice sa y.d.length sc)) := blk_cell BS.out 4
            go_wp2_with fail
            refine (Put_any _ _ M2 y sa sc _ HQ.out HOK2.out (HY.out.mono (fun b hb h => ⟨by omega, hb⟩)) HYB.out HY32.out).mono ?_
            rintro e V20 ⟨rfl, hq2, hk⟩
            rw [HG1.out]
            have HQN := hid (hq2.mono (Z' := fun b => V11.heap.size ≤ b) (fun b _ h => by rcases h with h | h <;> omega))
            have HKN2 : Hd ((putM M2 y).kn = true) := hid (putM_kn HG1.out)
            clear hq2 HQ
            clear o_BS_0 o_BS_1 o_BS_2 o_BS_3 o_BS_4
            have HN' : Hd (NibF V20) := hid (HN.out.keep hk (fun b h1 h2 h3 => by omega))
            have H1' : Hd (Sl (fun b => b < w.heap.size) V20 v1 (u8s l1)) := hid (H1.out.keep hk (fun b h1 h2 h3 => by omega))
            have HS' : Hd (Sl (fun b => b < w.heap.size) V20 vs (i64s sizes)) := hid (HS.out.keep hk (fun b h1 h2 h3 => by omega))
            have HO' : Hd (Sl (fun b => b < w.heap.size) V20 vo (i64s order)) := hid (HO.out.keep hk (fun b h1 h2 h3 => by omega))
            have HY' : Hd (Sl (fun b => b < w.heap.size) V20 (.slice sa y.d.length sc) (u8s y.d)) := hid (HY.out.keep hk (fun b h1 h2 h3 => by omega))
            have BS' : Hd (Blk V20 w.heap.size #[(.int .i64 y.f), (.int .i64 y.o), (.int .i64 y.t), (.int .u32 (y.s : Int)), (.slice sa y.d.length sc)] 44) := hid (blk_keep BS.out hk (fun h => by omega))
            have SM' : Hd (Sl (fun b => b < w.heap.size) V20 (.slice ma x.length mc) (u8s x)) := hid (SM.out.keep hk (fun b h1 h2 h3 => by omega))
            have HP' : Hd (PartR (fun b => b < V11.heap.size) V20 (W1.heap.size) M) := hid (HP.out.keep hk (fun b h1 h2 h3 => by omega))
            clear HN H1 HS HO HY BS SM HP
            have HN := HN'
            clear HN'
            have H1 := H1'
            clear H1'
            have HS := HS'
            clear HS'
            have HO := HO'
            clear HO'
            have HY := HY'
            clear HY'
            have BS := BS'
            clear BS'
            have SM := SM'
            clear SM'
            have HP := HP'
            clear HP'
            have HK' : Hd (Keeps (fun _ => False) w V20) := hid (HK.out.trans' hk (fun i hi h => by omega))
            clear HK
            have HK := HK'
            clear HK'
            have z_V20 := hk.size
            clear hk
            have HQ := HQN
            clear HQN
            go_wp2_with fail
            refine (Known_any _ _ _ _ HQ.out).mono ?_
            rw [HKN2.out]
            rintro e wx ⟨rfl, rfl⟩
            go_wp2_with fail
            refine (Known_any _ _ _ _ HP.out).mono ?_
            rw [HKN.out]
            rintro e wx ⟨rfl, rfl⟩
            have hnn : (decide (0 < n) == decide ((0 : Int) < (n : Int))) = true := by rw [show decide ((0 : Int) < (n : Int)) = decide (0 < n) from decide_eq_decide.2 (by omega)]; exact beq_self_eq_true _
            go_wp2_with fail
            refine (lives_any _ HN.out).mono ?_
            rintro e W8 ⟨rfl, hk⟩
            have HN' : Hd (NibF W8) := hid (HN.out.keep hk (fun _ _ _ h => h))
            have H1' : Hd (Sl (fun b => b < w.heap.size) W8 v1 (u8s l1)) := hid (H1.out.keep hk (fun _ _ _ h => h))
            have HS' : Hd (Sl (fun b => b < w.heap.size) W8 vs (i64s sizes)) := hid (HS.out.keep hk (fun _ _ _ h => h))
            have HO' : Hd (Sl (fun b => b < w.heap.size) W8 vo (i64s order)) := hid (HO.out.keep hk (fun _ _ _ h => h))
            have HY' : Hd (Sl (fun b => b < w.heap.size) W8 (.slice sa y.d.length sc) (u8s y.d)) := hid (HY.out.keep hk (fun _ _ _ h => h))
            have BS' : Hd (Blk W8 w.heap.size #[(.int .i64 y.f), (.int .i64 y.o), (.int .i64 y.t), (.int .u32 (y.s : Int)), (.slice sa y.d.length sc)] 44) := hid (blk_keep BS.out hk (fun h => h))
            have SM' : Hd (Sl (fun b => b < w.heap.size) W8 (.slice ma x.length mc) (u8s x)) := hid (SM.out.keep hk (fun _ _ _ h => h))
            have HP' : Hd (PartR (fun b => b < V11.heap.size) W8 (W1.heap.size) M) := hid (HP.out.keep hk (fun _ _ _ h => h))
            have HQ' : Hd (PartR (fun b => V11.heap.size ≤ b) W8 pq (putM M2 y)) := hid (HQ.out.keep hk (fun _ _ _ h => h))
            clear HN H1 HS HO HY BS SM HP HQ
            have HN := HN'
            clear HN'
            have H1 := H1'
            clear H1'
            have HS := HS'
            clear HS'
            have HO := HO'
            clear HO'
            have HY := HY'
            clear HY'
            have BS := BS'
            clear BS'
            have SM := SM'
            clear SM'
            have HP := HP'
            clear HP'
            have HQ := HQ'
            clear HQ'
            have HK' : Hd (Keeps (fun _ => False) w W8) := hid (HK.out.trans hk)
            clear HK
            have HK := HK'
            clear HK'
            have z_W8 := hk.size
            clear hk
            go_wp2
            go_ret
            exact ⟨rfl, HK.out⟩
          · have hM := HSM.out hz0
            subst hM
            have hb12 : b2 = b1 := by rw [← HB1.out, ← HB2.out]
            subst hb12
            have heq : (e0 == 0) = false := by simpa using hz0
            clear HAG HSM HM2 HOK2
            have HBB : Hd (∀ c ∈ b2.1, c < 256) := hid (by rw [← HB1.out]; unfold bytesM; have := HOK.out.b; split; simp; split; simp; split; simp; exact this)
            have hkk : (M2.kn == M2.kn) = true := beq_self_eq_true _
            have hbb : (b2.2 == b2.2) = true := beq_self_eq_true _
            go_wp2_with fail
            refine (Known_any _ _ _ _ HQ.out).mono ?_
            rintro e wx ⟨rfl, rfl⟩
            go_wp2_with fail
            refine (Known_any _ _ _ _ HP.out).mono ?_
            rintro e wx ⟨rfl, rfl⟩
            go_wp2_with fail
            refine (SameBytes_any _ _ _ _ b2.1 b2.1 _ SB1.out SB2.out HBB.out HBB.out).mono ?_
            rw [decide_eq_true (rfl : b2.1 = b2.1)]
            rintro e wx ⟨rfl, rfl⟩
            go_wp2_with fail
            refine (Gaps_any _ _ M2 _ HP.out HOK.out).mono ?_
            rintro e W8 ⟨ga1, gc1, rfl, hgo, hk⟩
            have SG1 : Hd (Gps (fun _ => True) _ (.slice ga1 (gapsM M2).length gc1) (gapsM M2)) := hid (hgo.row.mono (fun _ _ _ => trivial))
            clear hgo
            have HN' : Hd (NibF W8) := hid (HN.out.keep hk (fun _ _ _ h => h))
            have H1' : Hd (Sl (fun b => b < w.heap.size) W8 v1 (u8s l1)) := hid (H1.out.keep hk (fun _ _ _ h => h))
            have HS' : Hd (Sl (fun b => b < w.heap.size) W8 vs (i64s sizes)) := hid (HS.out.keep hk (fun _ _ _ h => h))
            have HO' : Hd (Sl (fun b => b < w.heap.size) W8 vo (i64s order)) := hid (HO.out.keep hk (fun _ _ _ h => h))
            have HY' : Hd (Sl (fun b => b < w.heap.size) W8 (.slice sa y.d.length sc) (u8s y.d)) := hid (HY.out.keep hk (fun _ _ _ h => h))
            have BS' : Hd (Blk W8 w.heap.size #[(.int .i64 y.f), (.int .i64 y.o), (.int .i64 y.t), (.int .u32 (y.s : Int)), (.slice sa y.d.length sc)] 44) := hid (blk_keep BS.out hk (fun h => h))
            have SM' : Hd (Sl (fun b => b < w.heap.size) W8 (.slice ma x.length mc) (u8s x)) := hid (SM.out.keep hk (fun _ _ _ h => h))
            have HP' : Hd (PartR (fun b => b < V11.heap.size) W8 (W1.heap.size) M2) := hid (HP.out.keep hk (fun _ _ _ h => h))
            have HQ' : Hd (PartR (fun b => V11.heap.size ≤ b) W8 pq M2) := hid (HQ.out.keep hk (fun _ _ _ h => h))
            have SB1' : Hd (Sl (fun _ => True) W8 (.slice ba1 b2.1.length bc1) (u8s b2.1)) := hid (SB1.out.keep hk (fun _ _ _ h => h))
            have SB2' : Hd (Sl (fun _ => True) W8 (.slice ba2 b2.1.length bc2) (u8s b2.1)) := hid (SB2.out.keep hk (fun _ _ _ h => h))
            clear HN H1 HS HO HY BS SM HP HQ SB1 SB2
            have HN := HN'
            clear HN'
            have H1 := H1'
            clear H1'
            have HS := HS'
            clear HS'
            have HO := HO'
            clear HO'
            have HY := HY'
            clear HY'
            have BS := BS'
            clear BS'
            have SM := SM'
            clear SM'
            have HP := HP'
            clear HP'
            have HQ := HQ'
            clear HQ'
            have SB1 := SB1'
            clear SB1'
            have SB2 := SB2'
            clear SB2'
            have HK' : Hd (Keeps (fun _ => False) w W8) := hid (HK.out.trans hk)
            clear HK
            have HK := HK'
            clear HK'
            have z_W8 := hk.size
            clear hk
            go_wp2_with fail
            refine (Gaps_any _ _ M2 _ HQ.out HOK.out).mono ?_
            rintro e W9 ⟨ga2, gc2, rfl, hgo, hk⟩
            have SG2 : Hd (Gps (fun _ => True) _ (.slice ga2 (gapsM M2).length gc2) (gapsM M2)) := hid (hgo.row.mono (fun _ _ _ => trivial))
            clear hgo
            have HN' : Hd (NibF W9) := hid (HN.out.keep hk (fun _ _ _ h => h))
            have H1' : Hd (Sl (fun b => b < w.heap.size) W9 v1 (u8s l1)) := hid (H1.out.keep hk (fun _ _ _ h => h))
            have HS' : Hd (Sl (fun b => b < w.heap.size) W9 vs (i64s sizes)) := hid (HS.out.keep hk (fun _ _ _ h => h))
            have HO' : Hd (Sl (fun b => b < w.heap.size) W9 vo (i64s order)) := hid (HO.out.keep hk (fun _ _ _ h => h))
            have HY' : Hd (Sl (fun b => b < w.heap.size) W9 (.slice sa y.d.length sc) (u8s y.d)) := hid (HY.out.keep hk (fun _ _ _ h => h))
            have BS' : Hd (Blk W9 w.heap.size #[(.int .i64 y.f), (.int .i64 y.o), (.int .i64 y.t), (.int .u32 (y.s : Int)), (.slice sa y.d.length sc)] 44) := hid (blk_keep BS.out hk (fun h => h))
            have SM' : Hd (Sl (fun b => b < w.heap.size) W9 (.slice ma x.length mc) (u8s x)) := hid (SM.out.keep hk (fun _ _ _ h => h))
            have HP' : Hd (PartR (fun b => b < V11.heap.size) W9 (W1.heap.size) M2) := hid (HP.out.keep hk (fun _ _ _ h => h))
            have HQ' : Hd (PartR (fun b => V11.heap.size ≤ b) W9 pq M2) := hid (HQ.out.keep hk (fun _ _ _ h => h))
            have SB1' : Hd (Sl (fun _ => True) W9 (.slice ba1 b2.1.length bc1) (u8s b2.1)) := hid (SB1.out.keep hk (fun _ _ _ h => h))
            have SB2' : Hd (Sl (fun _ => True) W9 (.slice ba2 b2.1.length bc2) (u8s b2.1)) := hid (SB2.out.keep hk (fun _ _ _ h => h))
            have SG1' : Hd (Gps (fun _ => True) W9 (.slice ga1 (gapsM M2).length gc1) (gapsM M2)) := hid (SG1.out.keep hk (fun _ _ _ h => h))
            clear HN H1 HS HO HY BS SM HP HQ SB1 SB2 SG1
            have HN := HN'
            clear HN'
            have H1 := H1'
            clear H1'
            have HS := HS'
            clear HS'
            have HO := HO'
            clear HO'
            have HY := HY'
            clear HY'
            have BS := BS'
            clear BS'
            have SM := SM'
            clear SM'
            have HP := HP'
            clear HP'
            have HQ := HQ'
            clear HQ'
            have SB1 := SB1'
            clear SB1'
            have SB2 := SB2'
            clear SB2'
            have SG1 := SG1'
            clear SG1'
            have HK' : Hd (Keeps (fun _ => False) w W9) := hid (HK.out.trans hk)
            clear HK
            have HK := HK'
            clear HK'
            have z_W9 := hk.size
            clear hk
            go_wp2_with fail
            refine (SameGaps_any _ _ _ _ (gapsM M2) _ SG1.out SG2.out).mono ?_
            rintro e W10 ⟨rfl, hk⟩
            have HN' : Hd (NibF W10) := hid (HN.out.keep hk (fun _ _ _ h => h))
            have H1' : Hd (Sl (fun b => b < w.heap.size) W10 v1 (u8s l1)) := hid (H1.out.keep hk (fun _ _ _ h => h))
            have HS' : Hd (Sl (fun b => b < w.heap.size) W10 vs (i64s sizes)) := hid (HS.out.keep hk (fun _ _ _ h => h))
            have HO' : Hd (Sl (fun b => b < w.heap.size) W10 vo (i64s order)) := hid (HO.out.keep hk (fun _ _ _ h => h))
            have HY' : Hd (Sl (fun b => b < w.heap.size) W10 (.slice sa y.d.length sc) (u8s y.d)) := hid (HY.out.keep hk (fun _ _ _ h => h))
            have BS' : Hd (Blk W10 w.heap.size #[(.int .i64 y.f), (.int .i64 y.o), (.int .i64 y.t), (.int .u32 (y.s : Int)), (.slice sa y.d.length sc)] 44) := hid (blk_keep BS.out hk (fun h => h))
            have SM' : Hd (Sl (fun b => b < w.heap.size) W10 (.slice ma x.length mc) (u8s x)) := hid (SM.out.keep hk (fun _ _ _ h => h))
            have HP' : Hd (PartR (fun b => b < V11.heap.size) W10 (W1.heap.size) M2) := hid (HP.out.keep hk (fun _ _ _ h => h))
            have HQ' : Hd (PartR (fun b => V11.heap.size ≤ b) W10 pq M2) := hid (HQ.out.keep hk (fun _ _ _ h => h))
            have SB1' : Hd (Sl (fun _ => True) W10 (.slice ba1 b2.1.length bc1) (u8s b2.1)) := hid (SB1.out.keep hk (fun _ _ _ h => h))
            have SB2' : Hd (Sl (fun _ => True) W10 (.slice ba2 b2.1.length bc2) (u8s b2.1)) := hid (SB2.out.keep hk (fun _ _ _ h => h))
            have SG1' : Hd (Gps (fun _ => True) W10 (.slice ga1 (gapsM M2).length gc1) (gapsM M2)) := hid (SG1.out.keep hk (fun _ _ _ h => h))
            have SG2' : Hd (Gps (fun _ => True) W10 (.slice ga2 (gapsM M2).length gc2) (gapsM M2)) := hid (SG2.out.keep hk (fun _ _ _ h => h))
            clear HN H1 HS HO HY BS SM HP HQ SB1 SB2 SG1 SG2
            have HN := HN'
            clear HN'
            have H1 := H1'
            clear H1'
            have HS := HS'
            clear HS'
            have HO := HO'
            clear HO'
            have HY := HY'
            clear HY'
            have BS := BS'
            clear BS'
            have SM := SM'
            clear SM'
            have HP := HP'
            clear HP'
            have HQ := HQ'
            clear HQ'
            have SB1 := SB1'
            clear SB1'
            have SB2 := SB2'
            clear SB2'
            have SG1 := SG1'
            clear SG1'
            have SG2 := SG2'
            clear SG2'
            have HK' : Hd (Keeps (fun _ => False) w W10) := hid (HK.out.trans hk)
            clear HK
            have HK := HK'
            clear HK'
            have z_W10 := hk.size
            clear hk
            go_wp2_with fail
            refine (lives_any _ HN.out).mono ?_
            rintro e W11 ⟨rfl, hk⟩
            have HN' : Hd (NibF W11) := hid (HN.out.keep hk (fun _ _ _ h => h))
            have H1' : Hd (Sl (fun b => b < w.heap.size) W11 v1 (u8s l1)) := hid (H1.out.keep hk (fun _ _ _ h => h))
            have HS' : Hd (Sl (fun b => b < w.heap.size) W11 vs (i64s sizes)) := hid (HS.out.keep hk (fun _ _ _ h => h))
            have HO' : Hd (Sl (fun b => b < w.heap.size) W11 vo (i64s order)) := hid (HO.out.keep hk (fun _ _ _ h => h))
            have HY' : Hd (Sl (fun b => b < w.heap.size) W11 (.slice sa y.d.length sc) (u8s y.d)) := hid (HY.out.keep hk (fun _ _ _ h => h))
            have BS' : Hd (Blk W11 w.heap.size #[(.int .i64 y.f), (.int .i64 y.o), (.int .i64 y.t), (.int .u32 (y.s : Int)), (.slice sa y.d.length sc)] 44) := hid (blk_keep BS.out hk (fun h => h))
            have SM' : Hd (Sl (fun b => b < w.heap.size) W11 (.slice ma x.length mc) (u8s x)) := hid (SM.out.keep hk (fun _ _ _ h => h))
            have HP' : Hd (PartR (fun b => b < V11.heap.size) W11 (W1.heap.size) M2) := hid (HP.out.keep hk (fun _ _ _ h => h))
            have HQ' : Hd (PartR (fun b => V11.heap.size ≤ b) W11 pq M2) := hid (HQ.out.keep hk (fun _ _ _ h => h))
            have SB1' : Hd (Sl (fun _ => True) W11 (.slice ba1 b2.1.length bc1) (u8s b2.1)) := hid (SB1.out.keep hk (fun _ _ _ h => h))
            have SB2' : Hd (Sl (fun _ => True) W11 (.slice ba2 b2.1.length bc2) (u8s b2.1)) := hid (SB2.out.keep hk (fun _ _ _ h => h))
            have SG1' : Hd (Gps (fun _ => True) W11 (.slice ga1 (gapsM M2).length gc1) (gapsM M2)) := hid (SG1.out.keep hk (fun _ _ _ h => h))
            have SG2' : Hd (Gps (fun _ => True) W11 (.slice ga2 (gapsM M2).length gc2) (gapsM M2)) := hid (SG2.out.keep hk (fun _ _ _ h => h))
            clear HN H1 HS HO HY BS SM HP HQ SB1 SB2 SG1 SG2
            have HN := HN'
            clear HN'
            have H1 := H1'
            clear H1'
            have HS := HS'
            clear HS'
            have HO := HO'
            clear HO'
            have HY := HY'
            clear HY'
            have BS := BS'
            clear BS'
            have SM := SM'
            clear SM'
            have HP := HP'
            clear HP'
            have HQ := HQ'
            clear HQ'
            have SB1 := SB1'
            clear SB1'
            have SB2 := SB2'
            clear SB2'
            have SG1 := SG1'
            clear SG1'
            have SG2 := SG2'
            clear SG2'
            have HK' : Hd (Keeps (fun _ => False) w W11) := hid (HK.out.trans hk)
            clear HK
            have HK := HK'
            clear HK'
            have z_W11 := hk.size
            clear hk
            go_wp2
            go_ret
            exact ⟨rfl, HK.out⟩
      · skip
        have eT : t0 = T0 := by rw [hT.out, if_neg (fun h => by omega)]
        subst eT
        have o_BS_2 : W4.cell? ⟨w.heap.size, 2, none⟩ = some ((.int .i64 t0)) := blk_cell BS.out 2
        have f_BS_2 : W4.frozen? ⟨w.heap.size, 2, none⟩ = false := blk_free BS.out 2
        go_upto_region 13 with fail
        clear o_BS_2 f_BS_2
        have BSN : Hd (Blk W4 w.heap.size #[.int .i64 y.f, .int .i64 y.o, .int .i64 y.t, .int .u32 (y.s : Int), .slice sa y.d.length sc] 44) := hid (by obtain ⟨d0, d1, d2, d3, d4⟩ := HYD.out; rw [d0, d1, d2, d3, d4]; exact BS.out)
        clear BS
        have BS := BSN
        clear BSN
        obtain ⟨V11, hV11⟩ : ∃ V, V = W4 := ⟨_, rfl⟩
        subst hV11
--TAIL W4
        have HYN : Hd (Sl (fun b => b < w.heap.size) V11 (.slice sa y.d.length sc) (u8s y.d)) := hid (by rw [HYD.out.2.2.2.2]; exact HY.out)
        clear HY
        have HY := HYN
        clear HYN
        replace HYB : Hd (∀ c ∈ y.d, c < 256) := hid (by rw [HYD.out.2.2.2.2]; exact HYB.out)
        replace HY32 : Hd (y.s < 4294967296) := hid (by rw [HYD.out.2.2.2.1]; exact HY32.out)
        clear hT HYD HT0; try clear t1; try clear t2
        have HPC : Hd (PartR (fun b => b < V11.heap.size) V11 (W1.heap.size) M) := hid (HP.out.mono (fun b hb _ => hb))
        clear HP
        have HP := HPC
        clear HPC
        go_wp2_with fail
        refine (Clone_any _ _ M _ HP.out HOK.out).mono ?_
        rintro e W5 ⟨pq, rfl, hpq, hk⟩
        have HQ := hid hpq
        clear hpq
        have HN' : Hd (NibF W5) := hid (HN.out.keep hk (fun _ _ _ h => h))
        have H1' : Hd (Sl (fun b => b < w.heap.size) W5 v1 (u8s l1)) := hid (H1.out.keep hk (fun _ _ _ h => h))
        have HS' : Hd (Sl (fun b => b < w.heap.size) W5 vs (i64s sizes)) := hid (HS.out.keep hk (fun _ _ _ h => h))
        have HO' : Hd (Sl (fun b => b < w.heap.size) W5 vo (i64s order)) := hid (HO.out.keep hk (fun _ _ _ h => h))
        have HY' : Hd (Sl (fun b => b < w.heap.size) W5 (.slice sa y.d.length sc) (u8s y.d)) := hid (HY.out.keep hk (fun _ _ _ h => h))
        have BS' : Hd (Blk W5 w.heap.size #[(.int .i64 y.f), (.int .i64 y.o), (.int .i64 y.t), (.int .u32 (y.s : Int)), (.slice sa y.d.length sc)] 44) := hid (blk_keep BS.out hk (fun h => h))
        have SM' : Hd (Sl (fun b => b < w.heap.size) W5 (.slice ma x.length mc) (u8s x)) := hid (SM.out.keep hk (fun _ _ _ h => h))
        have HP' : Hd (PartR (fun b => b < V11.heap.size) W5 (W1.heap.size) M) := hid (HP.out.keep hk (fun _ _ _ h => h))
        clear HN H1 HS HO HY BS SM HP
        have HN := HN'
        clear HN'
        have H1 := H1'
        clear H1'
        have HS := HS'
        clear HS'
        have HO := HO'
        clear HO'
        have HY := HY'
        clear HY'
        have BS := BS'
        clear BS'
        have SM := SM'
        clear SM'
        have HP := HP'
        clear HP'
        have HK' : Hd (Keeps (fun _ => False) w W5) := hid (HK.out.trans hk)
        clear HK
        have HK := HK'
        clear HK'
        have z_W5 := hk.size
        clear hk
        obtain ⟨e0, he0⟩ : ∃ e0, putE M y = e0 := ⟨_, rfl⟩
        obtain ⟨M2, hM2⟩ : ∃ M2, putM M y = M2 := ⟨_, rfl⟩
        have HE0 := hid he0; have HM2 := hid hM2; have HOK2 : Hd M2.ok := hid (by rw [← hM2]; exact putM_ok HOK.out HY32.out HYB.out)
        have HAG : Hd (e0 = 0 → putE M2 y = 0 ∧ M2.kn = true) := hid (fun h => by rw [← hM2]; exact ⟨put_again HOK.out HY32.out (by rw [he0]; exact h), putM_kn (by rw [he0]; exact h)⟩)
        have HSM : Hd (e0 ≠ 0 → M2 = M) := hid (fun h => by rw [← hM2]; exact putM_same HOK.out (by rw [he0]; exact h))
        clear he0 hM2
        go_upto_region 16 with fail
        have o_BS_0 : W5.cell? ⟨w.heap.size, 0, none⟩ = some ((.int .i64 y.f)) := blk_cell BS.out 0
        have o_BS_1 : W5.cell? ⟨w.heap.size, 1, none⟩ = some ((.int .i64 y.o)) := blk_cell BS.out 1
        have o_BS_2 : W5.cell? ⟨w.heap.size, 2, none⟩ = some ((.int .i64 y.t)) := blk_cell BS.out 2
        have o_BS_3 : W5.cell? ⟨w.heap.size, 3, none⟩ = some ((.int .u32 (y.s : Int))) := blk_cell BS.out 3
        have o_BS_4 : W5.cell? ⟨w.heap.size, 4, none⟩ = some ((.slice sa y.d.length sc)) := blk_cell BS.out 4
        go_wp2_with fail
        refine (Put_any _ _ M y sa sc _ HQ.out HOK.out (HY.out.mono (fun b hb h => ⟨by omega, hb⟩)) HYB.out HY32.out).mono ?_
        rintro e V16 ⟨rfl, hq2, hk⟩
        rw [HE0.out]
        rw [HM2.out] at hq2
        have HQN := hid (hq2.mono (Z' := fun b => V11.heap.size ≤ b) (fun b _ h => by rcases h with h | h <;> omega))
        clear hq2 HQ
        clear o_BS_0 o_BS_1 o_BS_2 o_BS_3 o_BS_4
        have HN' : Hd (NibF V16) := hid (HN.out.keep hk (fun b h1 h2 h3 => by omega))
        have H1' : Hd (Sl (fun b => b < w.heap.size) V16 v1 (u8s l1)) := hid (H1.out.keep hk (fun b h1 h2 h3 => by omega))
        have HS' : Hd (Sl (fun b => b < w.heap.size) V16 vs (i64s sizes)) := hid (HS.out.keep hk (fun b h1 h2 h3 => by omega))
        have HO' : Hd (Sl (fun b => b < w.heap.size) V16 vo (i64s order)) := hid (HO.out.keep hk (fun b h1 h2 h3 => by omega))
        have HY' : Hd (Sl (fun b => b < w.heap.size) V16 (.slice sa y.d.length sc) (u8s y.d)) := hid (HY.out.keep hk (fun b h1 h2 h3 => by omega))
        have BS' : Hd (Blk V16 w.heap.size #[(.int .i64 y.f), (.int .i64 y.o), (.int .i64 y.t), (.int .u32 (y.s : Int)), (.slice sa y.d.length sc)] 44) := hid (blk_keep BS.out hk (fun h => by omega))
        have SM' : Hd (Sl (fun b => b < w.heap.size) V16 (.slice ma x.length mc) (u8s x)) := hid (SM.out.keep hk (fun b h1 h2 h3 => by omega))
        have HP' : Hd (PartR (fun b => b < V11.heap.size) V16 (W1.heap.size) M) := hid (HP.out.keep hk (fun b h1 h2 h3 => by omega))
        clear HN H1 HS HO HY BS SM HP
        have HN := HN'
        clear HN'
        have H1 := H1'
        clear H1'
        have HS := HS'
        clear HS'
        have HO := HO'
        clear HO'
        have HY := HY'
        clear HY'
        have BS := BS'
        clear BS'
        have SM := SM'
        clear SM'
        have HP := HP'
        clear HP'
        have HK' : Hd (Keeps (fun _ => False) w V16) := hid (HK.out.trans' hk (fun i hi h => by omega))
        clear HK
        have HK := HK'
        clear HK'
        have z_V16 := hk.size
        clear hk
        have HQ := HQN
        clear HQN
        obtain ⟨b1, hb1⟩ : ∃ b1, (bytesM M) = b1 := ⟨_, rfl⟩
        obtain ⟨b2, hb2⟩ : ∃ b2, (bytesM M2) = b2 := ⟨_, rfl⟩
        have HB1 := hid hb1; have HB2 := hid hb2
        clear hb1 hb2
        go_wp2_with fail
        refine (Bytes_any _ _ M _ HN.out HP.out HOK.out).mono ?_
        rw [HB1.out]
        rintro e W6 ⟨ba1, bc1, rfl, hbo, hk⟩
        have SB1 : Hd (Sl (fun _ => True) _ (.slice ba1 b1.1.length bc1) (u8s b1.1)) := hid (row_sl (hbo.row.mono (fun _ _ _ => trivial)) (by simp))
        clear hbo
        have HN' : Hd (NibF W6) := hid (HN.out.keep hk (fun _ _ _ h => h))
        have H1' : Hd (Sl (fun b => b < w.heap.size) W6 v1 (u8s l1)) := hid (H1.out.keep hk (fun _ _ _ h => h))
        have HS' : Hd (Sl (fun b => b < w.heap.size) W6 vs (i64s sizes)) := hid (HS.out.keep hk (fun _ _ _ h => h))
        have HO' : Hd (Sl (fun b => b < w.heap.size) W6 vo (i64s order)) := hid (HO.out.keep hk (fun _ _ _ h => h))
        have HY' : Hd (Sl (fun b => b < w.heap.size) W6 (.slice sa y.d.length sc) (u8s y.d)) := hid (HY.out.keep hk (fun _ _ _ h => h))
        have BS' : Hd (Blk W6 w.heap.size #[(.int .i64 y.f), (.int .i64 y.o), (.int .i64 y.t), (.int .u32 (y.s : Int)), (.slice sa y.d.length sc)] 44) := hid (blk_keep BS.out hk (fun h => h))
        have SM' : Hd (Sl (fun b => b < w.heap.size) W6 (.slice ma x.length mc) (u8s x)) := hid (SM.out.keep hk (fun _ _ _ h => h))
        have HP' : Hd (PartR (fun b => b < V11.heap.size) W6 (W1.heap.size) M) := hid (HP.out.keep hk (fun _ _ _ h => h))
        have HQ' : Hd (PartR (fun b => V11.heap.size ≤ b) W6 pq M2) := hid (HQ.out.keep hk (fun _ _ _ h => h))
        clear HN H1 HS HO HY BS SM HP HQ
        have HN := HN'
        clear HN'
        have H1 := H1'
        clear H1'
        have HS := HS'
        clear HS'
        have HO := HO'
        clear HO'
        have HY := HY'
        clear HY'
        have BS := BS'
        clear BS'
        have SM := SM'
        clear SM'
        have HP := HP'
        clear HP'
        have HQ := HQ'
        clear HQ'
        have HK' : Hd (Keeps (fun _ => False) w W6) := hid (HK.out.trans hk)
        clear HK
        have HK := HK'
        clear HK'
        have z_W6 := hk.size
        clear hk
        go_wp2_with fail
        refine (Bytes_any _ _ M2 _ HN.out HQ.out HOK2.out).mono ?_
        rw [HB2.out]
        rintro e W7 ⟨ba2, bc2, rfl, hbo, hk⟩
        have SB2 : Hd (Sl (fun _ => True) _ (.slice ba2 b2.1.length bc2) (u8s b2.1)) := hid (row_sl (hbo.row.mono (fun _ _ _ => trivial)) (by simp))
        clear hbo
        have HN' : Hd (NibF W7) := hid (HN.out.keep hk (fun _ _ _ h => h))
        have H1' : Hd (Sl (fun b => b < w.heap.size) W7 v1 (u8s l1)) := hid (H1.out.keep hk (fun _ _ _ h => h))
        have HS' : Hd (Sl (fun b => b < w.heap.size) W7 vs (i64s sizes)) := hid (HS.out.keep hk (fun _ _ _ h => h))
        have HO' : Hd (Sl (fun b => b < w.heap.size) W7 vo (i64s order)) := hid (HO.out.keep hk (fun _ _ _ h => h))
        have HY' : Hd (Sl (fun b => b < w.heap.size) W7 (.slice sa y.d.length sc) (u8s y.d)) := hid (HY.out.keep hk (fun _ _ _ h => h))
        have BS' : Hd (Blk W7 w.heap.size #[(.int .i64 y.f), (.int .i64 y.o), (.int .i64 y.t), (.int .u32 (y.s : Int)), (.slice sa y.d.length sc)] 44) := hid (blk_keep BS.out hk (fun h => h))
        have SM' : Hd (Sl (fun b => b < w.heap.size) W7 (.slice ma x.length mc) (u8s x)) := hid (SM.out.keep hk (fun _ _ _ h => h))
        have HP' : Hd (PartR (fun b => b < V11.heap.size) W7 (W1.heap.size) M) := hid (HP.out.keep hk (fun _ _ _ h => h))
        have HQ' : Hd (PartR (fun b => V11.heap.size ≤ b) W7 pq M2) := hid (HQ.out.keep hk (fun _ _ _ h => h))
        have SB1' : Hd (Sl (fun _ => True) W7 (.slice ba1 b1.1.length bc1) (u8s b1.1)) := hid (SB1.out.keep hk (fun _ _ _ h => h))
        clear HN H1 HS HO HY BS SM HP HQ SB1
        have HN := HN'
        clear HN'
        have H1 := H1'
        clear H1'
        have HS := HS'
        clear HS'
        have HO := HO'
        clear HO'
        have HY := HY'
        clear HY'
        have BS := BS'
        clear BS'
        have SM := SM'
        clear SM'
        have HP := HP'
        clear HP'
        have HQ := HQ'
        clear HQ'
        have SB1 := SB1'
        clear SB1'
        have HK' : Hd (Keeps (fun _ => False) w W7) := hid (HK.out.trans hk)
        clear HK
        have HK := HK'
        clear HK'
        have z_W7 := hk.size
        clear hk
        by_cases hz0 : e0 = 0
        · clear SB1 SB2
          subst hz0
          obtain ⟨ag1, ag2⟩ := HAG.out rfl
          have HG1 := hid ag1; have HG2 := hid ag2
          clear ag1 ag2 HSM HAG
          go_upto_region 20 with fail
          have o_BS_0 : W7.cell? ⟨w.heap.size, 0, none⟩ = some ((.int .i64 y.f)) := blk_cell BS.out 0
          have o_BS_1 : W7.cell? ⟨w.heap.size, 1, none⟩ = some ((.int .i64 y.o)) := blk_cell BS.out 1
          have o_BS_2 : W7.cell? ⟨w.heap.size, 2, none⟩ = some ((.int .i64 y.t)) := blk_cell BS.out 2
          have o_BS_3 : W7.cell? ⟨w.heap.size, 3, none⟩ = some ((.int .u32 (y.s : Int))) := blk_cell BS.out 3
          have o_BS_4 : W7.cell? ⟨w.heap.size, 4, none⟩ = some ((.slice sa y.d.length sc)) := blk_cell BS.out 4
          go_wp2_with fail
          refine (Put_any _ _ M2 y sa sc _ HQ.out HOK2.out (HY.out.mono (fun b hb h => ⟨by omega, hb⟩)) HYB.out HY32.out).mono ?_
          rintro e V20 ⟨rfl, hq2, hk⟩
          rw [HG1.out]
          have HQN := hid (hq2.mono (Z' := fun b => V11.heap.size ≤ b) (fun b _ h => by rcases h with h | h <;> omega))
          have HKN2 : Hd ((putM M2 y).kn = true) := hid (putM_kn HG1.out)
          clear hq2 HQ
          clear o_BS_0 o_BS_1 o_BS_2 o_BS_3 o_BS_4
          have HN' : Hd (NibF V20) := hid (HN.out.keep hk (fun b h1 h2 h3 => by omega))
          have H1' : Hd (Sl (fun b => b < w.heap.size) V20 v1 (u8s l1)) := hid (H1.out.keep hk (fun b h1 h2 h3 => by omega))
          have HS' : Hd (Sl (fun b => b < w.heap.size) V20 vs (i64s sizes)) := hid (HS.out.keep hk (fun b h1 h2 h3 => by omega))
          have HO' : Hd (Sl (fun b => b < w.heap.size) V20 vo (i64s order)) := hid (HO.out.keep hk (fun b h1 h2 h3 => by omega))
          have HY' : Hd (Sl (fun b => b < w.heap.size) V20 (.slice sa y.d.length sc) (u8s y.d)) := hid (HY.out.keep hk (fun b h1 h2 h3 => by omega))
          have BS' : Hd (Blk V20 w.heap.size #[(.int .i64 y.f), (.int .i64 y.o), (.int .i64 y.t), (.int .u32 (y.s : Int)), (.slice sa y.d.length sc)] 44) := hid (blk_keep BS.out hk (fun h => by omega))
          have SM' : Hd (Sl (fun b => b < w.heap.size) V20 (.slice ma x.length mc) (u8s x)) := hid (SM.out.keep hk (fun b h1 h2 h3 => by omega))
          have HP' : Hd (PartR (fun b => b < V11.heap.size) V20 (W1.heap.size) M) := hid (HP.out.keep hk (fun b h1 h2 h3 => by omega))
          clear HN H1 HS HO HY BS SM HP
          have HN := HN'
          clear HN'
          have H1 := H1'
          clear H1'
          have HS := HS'
          clear HS'
          have HO := HO'
          clear HO'
          have HY := HY'
          clear HY'
          have BS := BS'
          clear BS'
          have SM := SM'
          clear SM'
          have HP := HP'
          clear HP'
          have HK' : Hd (Keeps (fun _ => False) w V20) := hid (HK.out.trans' hk (fun i hi h => by omega))
          clear HK
          have HK := HK'
          clear HK'
          have z_V20 := hk.size
          clear hk
          have HQ := HQN
          clear HQN
          go_wp2_with fail
          refine (Known_any _ _ _ _ HQ.out).mono ?_
          rw [HKN2.out]
          rintro e wx ⟨rfl, rfl⟩
          go_wp2_with fail
          refine (Known_any _ _ _ _ HP.out).mono ?_
          rw [HKN.out]
          rintro e wx ⟨rfl, rfl⟩
          have hnn : (decide (0 < n) == decide ((0 : Int) < (n : Int))) = true := by rw [show decide ((0 : Int) < (n : Int)) = decide (0 < n) from decide_eq_decide.2 (by omega)]; exact beq_self_eq_true _
          go_wp2_with fail
          refine (lives_any _ HN.out).mono ?_
          rintro e W8 ⟨rfl, hk⟩
          have HN' : Hd (NibF W8) := hid (HN.out.keep hk (fun _ _ _ h => h))
          have H1' : Hd (Sl (fun b => b < w.heap.size) W8 v1 (u8s l1)) := hid (H1.out.keep hk (fun _ _ _ h => h))
          have HS' : Hd (Sl (fun b => b < w.heap.size) W8 vs (i64s sizes)) := hid (HS.out.keep hk (fun _ _ _ h => h))
          have HO' : Hd (Sl (fun b => b < w.heap.size) W8 vo (i64s order)) := hid (HO.out.keep hk (fun _ _ _ h => h))
          have HY' : Hd (Sl (fun b => b < w.heap.size) W8 (.slice sa y.d.length sc) (u8s y.d)) := hid (HY.out.keep hk (fun _ _ _ h => h))
          have BS' : Hd (Blk W8 w.heap.size #[(.int .i64 y.f), (.int .i64 y.o), (.int .i64 y.t), (.int .u32 (y.s : Int)), (.slice sa y.d.length sc)] 44) := hid (blk_keep BS.out hk (fun h => h))
          have SM' : Hd (Sl (fun b => b < w.heap.size) W8 (.slice ma x.length mc) (u8s x)) := hid (SM.out.keep hk (fun _ _ _ h => h))
          have HP' : Hd (PartR (fun b => b < V11.heap.size) W8 (W1.heap.size) M) := hid (HP.out.keep hk (fun _ _ _ h => h))
          have HQ' : Hd (PartR (fun b => V11.heap.size ≤ b) W8 pq (putM M2 y)) := hid (HQ.out.keep hk (fun _ _ _ h => h))
          clear HN H1 HS HO HY BS SM HP HQ
          have HN := HN'
          clear HN'
          have H1 := H1'
          clear H1'
          have HS := HS'
          clear HS'
          have HO := HO'
          clear HO'
          have HY := HY'
          clear HY'
          have BS := BS'
          clear BS'
          have SM := SM'
          clear SM'
          have HP := HP'
          clear HP'
          have HQ := HQ'
          clear HQ'
          have HK' : Hd (Keeps (fun _ => False) w W8) := hid (HK.out.trans hk)
          clear HK
          have HK := HK'
          clear HK'
          have z_W8 := hk.size
          clear hk
          go_wp2
          go_ret
          exact ⟨rfl, HK.out⟩
        · have hM := HSM.out hz0
          subst hM
          have hb12 : b2 = b1 := by rw [← HB1.out, ← HB2.out]
          subst hb12
          have heq : (e0 == 0) = false := by simpa using hz0
          clear HAG HSM HM2 HOK2
          have HBB : Hd (∀ c ∈ b2.1, c < 256) := hid (by rw [← HB1.out]; unfold bytesM; have := HOK.out.b; split; simp; split; simp; split; simp; exact this)
          have hkk : (M2.kn == M2.kn) = true := beq_self_eq_true _
          have hbb : (b2.2 == b2.2) = true := beq_self_eq_true _
          go_wp2_with fail
          refine (Known_any _ _ _ _ HQ.out).mono ?_
          rintro e wx ⟨rfl, rfl⟩
          go_wp2_with fail
          refine (Known_any _ _ _ _ HP.out).mono ?_
          rintro e wx ⟨rfl, rfl⟩
          go_wp2_with fail
          refine (SameBytes_any _ _ _ _ b2.1 b2.1 _ SB1.out SB2.out HBB.out HBB.out).mono ?_
          rw [decide_eq_true (rfl : b2.1 = b2.1)]
          rintro e wx ⟨rfl, rfl⟩
          go_wp2_with fail
          refine (Gaps_any _ _ M2 _ HP.out HOK.out).mono ?_
          rintro e W8 ⟨ga1, gc1, rfl, hgo, hk⟩
          have SG1 : Hd (Gps (fun _ => True) _ (.slice ga1 (gapsM M2).length gc1) (gapsM M2)) := hid (hgo.row.mono (fun _ _ _ => trivial))
          clear hgo
          have HN' : Hd (NibF W8) := hid (HN.out.keep hk (fun _ _ _ h => h))
          have H1' : Hd (Sl (fun b => b < w.heap.size) W8 v1 (u8s l1)) := hid (H1.out.keep hk (fun _ _ _ h => h))
          have HS' : Hd (Sl (fun b => b < w.heap.size) W8 vs (i64s sizes)) := hid (HS.out.keep hk (fun _ _ _ h => h))
          have HO' : Hd (Sl (fun b => b < w.heap.size) W8 vo (i64s order)) := hid (HO.out.keep hk (fun _ _ _ h => h))
          have HY' : Hd (Sl (fun b => b < w.heap.size) W8 (.slice sa y.d.length sc) (u8s y.d)) := hid (HY.out.keep hk (fun _ _ _ h => h))
          have BS' : Hd (Blk W8 w.heap.size #[(.int .i64 y.f), (.int .i64 y.o), (.int .i64 y.t), (.int .u32 (y.s : Int)), (.slice sa y.d.length sc)] 44) := hid (blk_keep BS.out hk (fun h => h))
          have SM' : Hd (Sl (fun b => b < w.heap.size) W8 (.slice ma x.length mc) (u8s x)) := hid (SM.out.keep hk (fun _ _ _ h => h))
          have HP' : Hd (PartR (fun b => b < V11.heap.size) W8 (W1.heap.size) M2) := hid (HP.out.keep hk (fun _ _ _ h => h))
          have HQ' : Hd (PartR (fun b => V11.heap.size ≤ b) W8 pq M2) := hid (HQ.out.keep hk (fun _ _ _ h => h))
          have SB1' : Hd (Sl (fun _ => True) W8 (.slice ba1 b2.1.length bc1) (u8s b2.1)) := hid (SB1.out.keep hk (fun _ _ _ h => h))
          have SB2' : Hd (Sl (fun _ => True) W8 (.slice ba2 b2.1.length bc2) (u8s b2.1)) := hid (SB2.out.keep hk (fun _ _ _ h => h))
          clear HN H1 HS HO HY BS SM HP HQ SB1 SB2
          have HN := HN'
          clear HN'
          have H1 := H1'
          clear H1'
          have HS := HS'
          clear HS'
          have HO := HO'
          clear HO'
          have HY := HY'
          clear HY'
          have BS := BS'
          clear BS'
          have SM := SM'
          clear SM'
          have HP := HP'
          clear HP'
          have HQ := HQ'
          clear HQ'
          have SB1 := SB1'
          clear SB1'
          have SB2 := SB2'
          clear SB2'
          have HK' : Hd (Keeps (fun _ => False) w W8) := hid (HK.out.trans hk)
          clear HK
          have HK := HK'
          clear HK'
          have z_W8 := hk.size
          clear hk
          go_wp2_with fail
          refine (Gaps_any _ _ M2 _ HQ.out HOK.out).mono ?_
          rintro e W9 ⟨ga2, gc2, rfl, hgo, hk⟩
          have SG2 : Hd (Gps (fun _ => True) _ (.slice ga2 (gapsM M2).length gc2) (gapsM M2)) := hid (hgo.row.mono (fun _ _ _ => trivial))
          clear hgo
          have HN' : Hd (NibF W9) := hid (HN.out.keep hk (fun _ _ _ h => h))
          have H1' : Hd (Sl (fun b => b < w.heap.size) W9 v1 (u8s l1)) := hid (H1.out.keep hk (fun _ _ _ h => h))
          have HS' : Hd (Sl (fun b => b < w.heap.size) W9 vs (i64s sizes)) := hid (HS.out.keep hk (fun _ _ _ h => h))
          have HO' : Hd (Sl (fun b => b < w.heap.size) W9 vo (i64s order)) := hid (HO.out.keep hk (fun _ _ _ h => h))
          have HY' : Hd (Sl (fun b => b < w.heap.size) W9 (.slice sa y.d.length sc) (u8s y.d)) := hid (HY.out.keep hk (fun _ _ _ h => h))
          have BS' : Hd (Blk W9 w.heap.size #[(.int .i64 y.f), (.int .i64 y.o), (.int .i64 y.t), (.int .u32 (y.s : Int)), (.slice sa y.d.length sc)] 44) := hid (blk_keep BS.out hk (fun h => h))
          have SM' : Hd (Sl (fun b => b < w.heap.size) W9 (.slice ma x.length mc) (u8s x)) := hid (SM.out.keep hk (fun _ _ _ h => h))
          have HP' : Hd (PartR (fun b => b < V11.heap.size) W9 (W1.heap.size) M2) := hid (HP.out.keep hk (fun _ _ _ h => h))
          have HQ' : Hd (PartR (fun b => V11.heap.size ≤ b) W9 pq M2) := hid (HQ.out.keep hk (fun _ _ _ h => h))
          have SB1' : Hd (Sl (fun _ => True) W9 (.slice ba1 b2.1.length bc1) (u8s b2.1)) := hid (SB1.out.keep hk (fun _ _ _ h => h))
          have SB2' : Hd (Sl (fun _ => True) W9 (.slice ba2 b2.1.length bc2) (u8s b2.1)) := hid (SB2.out.keep hk (fun _ _ _ h => h))
          have SG1' : Hd (Gps (fun _ => True) W9 (.slice ga1 (gapsM M2).length gc1) (gapsM M2)) := hid (SG1.out.keep hk (fun _ _ _ h => h))
          clear HN H1 HS HO HY BS SM HP HQ SB1 SB2 SG1
          have HN := HN'
          clear HN'
          have H1 := H1'
          clear H1'
          have HS := HS'
          clear HS'
          have HO := HO'
          clear HO'
          have HY := HY'
          clear HY'
          have BS := BS'
          clear BS'
          have SM := SM'
          clear SM'
          have HP := HP'
          clear HP'
          have HQ := HQ'
          clear HQ'
          have SB1 := SB1'
          clear SB1'
          have SB2 := SB2'
          clear SB2'
          have SG1 := SG1'
          clear SG1'
          have HK' : Hd (Keeps (fun _ => False) w W9) := hid (HK.out.trans hk)
          clear HK
          have HK := HK'
          clear HK'
          have z_W9 := hk.size
          clear hk
          go_wp2_with fail
          refine (SameGaps_any _ _ _ _ (gapsM M2) _ SG1.out SG2.out).mono ?_
          rintro e W10 ⟨rfl, hk⟩
          have HN' : Hd (NibF W10) := hid (HN.out.keep hk (fun _ _ _ h => h))
          have H1' : Hd (Sl (fun b => b < w.heap.size) W10 v1 (u8s l1)) := hid (H1.out.keep hk (fun _ _ _ h => h))
          have HS' : Hd (Sl (fun b => b < w.heap.size) W10 vs (i64s sizes)) := hid (HS.out.keep hk (fun _ _ _ h => h))
          have HO' : Hd (Sl (fun b => b < w.heap.size) W10 vo (i64s order)) := hid (HO.out.keep hk (fun _ _ _ h => h))
          have HY' : Hd (Sl (fun b => b < w.heap.size) W10 (.slice sa y.d.length sc) (u8s y.d)) := hid (HY.out.keep hk (fun _ _ _ h => h))
          have BS' : Hd (Blk W10 w.heap.size #[(.int .i64 y.f), (.int .i64 y.o), (.int .i64 y.t), (.int .u32 (y.s : Int)), (.slice sa y.d.length sc)] 44) := hid (blk_keep BS.out hk (fun h => h))
          have SM' : Hd (Sl (fun b => b < w.heap.size) W10 (.slice ma x.length mc) (u8s x)) := hid (SM.out.keep hk (fun _ _ _ h => h))
          have HP' : Hd (PartR (fun b => b < V11.heap.size) W10 (W1.heap.size) M2) := hid (HP.out.keep hk (fun _ _ _ h => h))
          have HQ' : Hd (PartR (fun b => V11.heap.size ≤ b) W10 pq M2) := hid (HQ.out.keep hk (fun _ _ _ h => h))
          have SB1' : Hd (Sl (fun _ => True) W10 (.slice ba1 b2.1.length bc1) (u8s b2.1)) := hid (SB1.out.keep hk (fun _ _ _ h => h))
          have SB2' : Hd (Sl (fun _ => True) W10 (.slice ba2 b2.1.length bc2) (u8s b2.1)) := hid (SB2.out.keep hk (fun _ _ _ h => h))
          have SG1' : Hd (Gps (fun _ => True) W10 (.slice ga1 (gapsM M2).length gc1) (gapsM M2)) := hid (SG1.out.keep hk (fun _ _ _ h => h))
          have SG2' : Hd (Gps (fun _ => True) W10 (.slice ga2 (gapsM M2).length gc2) (gapsM M2)) := hid (SG2.out.keep hk (fun _ _ _ h => h))
          clear HN H1 HS HO HY BS SM HP HQ SB1 SB2 SG1 SG2
          have HN := HN'
          clear HN'
          have H1 := H1'
          clear H1'
          have HS := HS'
          clear HS'
          have HO := HO'
          clear HO'
          have HY := HY'
          clear HY'
          have BS := BS'
          clear BS'
          have SM := SM'
          clear SM'
          have HP := HP'
          clear HP'
          have HQ := HQ'
          clear HQ'
          have SB1 := SB1'
          clear SB1'
          have SB2 := SB2'
          clear SB2'
          have SG1 := SG1'
          clear SG1'
          have SG2 := SG2'
          clear SG2'
          have HK' : Hd (Keeps (fun _ => False) w W10) := hid (HK.out.trans hk)
          clear HK
          have HK := HK'
          clear HK'
          have z_W10 := hk.size
          clear hk
          go_wp2_with fail
          refine (lives_any _ HN.out).mono ?_
          rintro e W11 ⟨rfl, hk⟩
          have HN' : Hd (NibF W11) := hid (HN.out.keep hk (fun _ _ _ h => h))
          have H1' : Hd (Sl (fun b => b < w.heap.size) W11 v1 (u8s l1)) := hid (H1.out.keep hk (fun _ _ _ h => h))
          have HS' : Hd (Sl (fun b => b < w.heap.size) W11 vs (i64s sizes)) := hid (HS.out.keep hk (fun _ _ _ h => h))
          have HO' : Hd (Sl (fun b => b < w.heap.size) W11 vo (i64s order)) := hid (HO.out.keep hk (fun _ _ _ h => h))
          have HY' : Hd (Sl (fun b => b < w.heap.size) W11 (.slice sa y.d.length sc) (u8s y.d)) := hid (HY.out.keep hk (fun _ _ _ h => h))
          have BS' : Hd (Blk W11 w.heap.size #[(.int .i64 y.f), (.int .i64 y.o), (.int .i64 y.t), (.int .u32 (y.s : Int)), (.slice sa y.d.length sc)] 44) := hid (blk_keep BS.out hk (fun h => h))
          have SM' : Hd (Sl (fun b => b < w.heap.size) W11 (.slice ma x.length mc) (u8s x)) := hid (SM.out.keep hk (fun _ _ _ h => h))
          have HP' : Hd (PartR (fun b => b < V11.heap.size) W11 (W1.heap.size) M2) := hid (HP.out.keep hk (fun _ _ _ h => h))
          have HQ' : Hd (PartR (fun b => V11.heap.size ≤ b) W11 pq M2) := hid (HQ.out.keep hk (fun _ _ _ h => h))
          have SB1' : Hd (Sl (fun _ => True) W11 (.slice ba1 b2.1.length bc1) (u8s b2.1)) := hid (SB1.out.keep hk (fun _ _ _ h => h))
          have SB2' : Hd (Sl (fun _ => True) W11 (.slice ba2 b2.1.length bc2) (u8s b2.1)) := hid (SB2.out.keep hk (fun _ _ _ h => h))
          have SG1' : Hd (Gps (fun _ => True) W11 (.slice ga1 (gapsM M2).length gc1) (gapsM M2)) := hid (SG1.out.keep hk (fun _ _ _ h => h))
          have SG2' : Hd (Gps (fun _ => True) W11 (.slice ga2 (gapsM M2).length gc2) (gapsM M2)) := hid (SG2.out.keep hk (fun _ _ _ h => h))
          clear HN H1 HS HO HY BS SM HP HQ SB1 SB2 SG1 SG2
          have HN := HN'
          clear HN'
          have H1 := H1'
          clear H1'
          have HS := HS'
          clear HS'
          have HO := HO'
          clear HO'
          have HY := HY'
          clear HY'
          have BS := BS'
          clear BS'
          have SM := SM'
          clear SM'
          have HP := HP'
          clear HP'
          have HQ := HQ'
          clear HQ'
          have SB1 := SB1'
          clear SB1'
          have SB2 := SB2'
          clear SB2'
          have SG1 := SG1'
          clear SG1'
          have SG2 := SG2'
          clear SG2'
          have HK' : Hd (Keeps (fun _ => False) w W11) := hid (HK.out.trans hk)
          clear HK
          have HK := HK'
          clear HK'
          have z_W11 := hk.size
          clear hk
          go_wp2
          go_ret
          exact ⟨rfl, HK.out⟩
end Go.Proofs.YtgeicbjlichdgaaDoor
