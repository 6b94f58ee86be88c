/- Link: LinkGarbles walked. -/
import Derived.Test.YtffnocjaljgnoaaDoorLinkGa
namespace Go.Proofs.YtffnocjaljgnoaaDoor
open Go.RowKit
attribute [local go_sem ↓] Go.wp_at_zero Go.wp_at_succ
set_option maxRecDepth 100000 in set_option maxHeartbeats 1000000 in
theorem garbles_any (v0 : Value) (l0 : List Nat) (arg dl : Int) (w : World) (hN : Cr.Nib w) (h0 : Sl (fun b => b < w.heap.size) w v0 (u8s l0)) (hl0 : ∀ c ∈ l0, c < 256) :
    Calls Tryd.prog 3 #[v0, .int .i64 arg, .int .i64 dl] w fun e w' => e = .returned (.bool true) ∧ Keeps (fun _ => False) w w' := by
  have HNX : Hd (NibX w) := hid hN
  have hpos := HNX.out.pos
  obtain ⟨few, hfew⟩ : ∃ few, l0.take 60 = few := ⟨_, rfl⟩
  have HF1 : Hd (few.length ≤ 60 ∧ ∀ c ∈ few, c < 256) := hid (by rw [← hfew]; exact ⟨by rw [List.length_take]; omega, fun c hc => hl0 c (List.mem_of_mem_take hc)⟩)
  have HF0 := Few_any _ _ l0 60 w h0 (by omega) (by rw [List.length_take]; omega)
  rw [show ((60 : Int).toNat) = 60 from rfl, hfew] at HF0
  have HFZ := hid HF0
  clear h0 hl0 hfew HF0 hN
  have hf1 := HF1.out.1
  obtain ⟨data, hdata⟩ : ∃ d, Cr.seal_ few = d := ⟨_, rfl⟩
  have HSE := hid hdata
  have hdl : data.length = few.length + 4 := by rw [← hdata]; exact Cr.seal_len few
  have HD8 : Hd (∀ c ∈ data, c < 256) := hid (by rw [← hdata]; exact Cr.seal_lt HF1.out.2)
  obtain ⟨g1, g2, g3⟩ := garbled few HF1.out.2 arg dl
  obtain ⟨t, ht0, ht1, r1, r2, r3⟩ := garb_law data (by omega) arg dl
  rw [hdata] at g1 g2 g3
  generalize spoilL data (garF arg dl) = bad at *
  have hd64 : data.length ≤ 64 := by omega
  have hb64 : bad.length ≤ 64 := by omega
  clear hdl g2
  have HG1 := hid g1; have HG3 := hid g3; have HR3 := hid r3
  obtain ⟨Ra, hRa⟩ : ∃ R : List Flt × Int × Bool, R = ([⟨t, 0, 1, 0, bad⟩], 1, true) := ⟨_, rfl⟩
  obtain ⟨Rb, hRb⟩ : ∃ R : List Flt × Int × Bool, R = ([⟨t, 0, 1, 0, bad⟩, ⟨t, 1, 1, 0, data⟩], 2, true) := ⟨_, rfl⟩
  rw [← hRa] at r1; rw [← hRb] at r2
  have HR1 := hid r1; have HR2 := hid r2; have HRA := hid hRa; have HRB := hid hRb
  clear hdata g1 g3 r1 r2 r3 hRa hRb
  go_enter Tryd.func3, Tryd.ntmps3
  go_wp2_with fail
  refine HFZ.out.mono ?_
  rintro e w1 ⟨a0, n0, c0, rfl, hn0, ho0, hk⟩
  obtain rfl : n0 = few.length := by rw [hn0, u8s_length]
  have SB : Hd (Sl (fun b => w.heap.size ≤ b ∧ b < w1.heap.size) w1 (.slice a0 few.length c0) (u8s few)) := hid ((row_sl ho0.row (by rw [u8s_length])).mono (fun b h1 h2 => ⟨h2, h1⟩))
  clear hn0 ho0 HFZ
  have HNX' : Hd (NibX w1) := hid (HNX.out.keep hk (fun _ _ _ h => h))
  clear HNX
  have HNX := HNX'
  clear HNX'
  have HK : Hd (Keeps (fun _ => False) w w1) := hid hk
  have z_w1 := hk.size
  clear hk
  go_upto_region 3 with fail
  generalize hW : World.alloc w1 _ = W1
  have KS : Hd (Keeps (fun _ => False) w1 W1) := hid (by rw [← hW]; exact (Keeps.alloc (Keeps.refl (fun _ => False) w1) _))
  have HNX' : Hd (NibX W1) := hid (HNX.out.keep KS.out (fun _ _ _ h => h))
  have SB' : Hd (Sl (fun b => w.heap.size ≤ b ∧ b < w1.heap.size) W1 (.slice a0 few.length c0) (u8s few)) := hid (SB.out.keep KS.out (fun _ _ _ h => h))
  have BW : Hd (Blk W1 w1.heap.size #[.int .i64 2, .int .i64 0, .int .i64 1, .int .i64 0, .int .i64 9, .int .i64 100] 25) := hid (by rw [← hW]; exact (blk_new _ _ _))
  clear HNX SB
  have HNX := HNX'
  clear HNX'
  have SB := SB'
  clear SB'
  have HK' : Hd (Keeps (fun _ => False) w W1) := hid (HK.out.trans KS.out)
  clear HK
  have HK := HK'
  clear HK'
  have z_W1 : w1.heap.size + 1 ≤ W1.heap.size := by rw [← hW]; simp
  clear hW KS
  go_wp2_with fail
  refine (Cr.Seal_any _ _ few _ HNX.out SB.out HF1.out.2 (by omega)).mono ?_
  rintro e W2 ⟨sa, sn, sc, rfl, hsn, hso, hk⟩
  rw [HSE.out] at hsn hso
  obtain rfl : sn = data.length := by rw [hsn, u8s_length]
  have SD : Hd (Sl (fun b => W1.heap.size ≤ b ∧ b < W2.heap.size) W2 (.slice sa data.length sc) (u8s data)) := hid ((row_sl hso.row (by rw [u8s_length])).mono (fun b h1 h2 => ⟨h2, h1⟩))
  clear hsn hso
  have HNX' : Hd (NibX W2) := hid (HNX.out.keep hk (fun _ _ _ h => h))
  have SB' : Hd (Sl (fun b => w.heap.size ≤ b ∧ b < w1.heap.size) W2 (.slice a0 few.length c0) (u8s few)) := hid (SB.out.keep hk (fun _ _ _ h => h))
  have BW' : Hd (Blk W2 w1.heap.size #[.int .i64 2, .int .i64 0, .int .i64 1, .int .i64 0, .int .i64 9, .int .i64 100] 25) := hid (blk_keep BW.out hk (fun h => h))
  clear HNX SB BW
  have HNX := HNX'
  clear HNX'
  have SB := SB'
  clear SB'
  have BW := BW'
  clear BW'
  have HK' : Hd (Keeps (fun _ => False) w W2) := hid (HK.out.trans hk)
  clear HK
  have HK := HK'
  clear HK'
  have z_W2 := hk.size
  clear hk
  go_upto_region 4 with fail
  generalize hW : World.alloc W2 _ = W3
  have KS : Hd (Keeps (fun _ => False) W2 W3) := hid (by rw [← hW]; exact (Keeps.alloc (Keeps.refl (fun _ => False) W2) _))
  have HNX' : Hd (NibX W3) := hid (HNX.out.keep KS.out (fun _ _ _ h => h))
  have SB' : Hd (Sl (fun b => w.heap.size ≤ b ∧ b < w1.heap.size) W3 (.slice a0 few.length c0) (u8s few)) := hid (SB.out.keep KS.out (fun _ _ _ h => h))
  have BW' : Hd (Blk W3 w1.heap.size #[.int .i64 2, .int .i64 0, .int .i64 1, .int .i64 0, .int .i64 9, .int .i64 100] 25) := hid (by rw [← hW]; exact (blk_alloc BW.out _))
  have SD' : Hd (Sl (fun b => W1.heap.size ≤ b ∧ b < W2.heap.size) W3 (.slice sa data.length sc) (u8s data)) := hid (SD.out.keep KS.out (fun _ _ _ h => h))
  have BM : Hd (Blk W3 W2.heap.size #[.int .i64 1, .int .i64 0, .slice sa data.length sc] 29) := hid (by rw [← hW]; exact (blk_new _ _ _))
  clear HNX SB BW SD
  have HNX := HNX'
  clear HNX'
  have SB := SB'
  clear SB'
  have BW := BW'
  clear BW'
  have SD := SD'
  clear SD'
  have HK' : Hd (Keeps (fun _ => False) w W3) := hid (HK.out.trans KS.out)
  clear HK
  have HK := HK'
  clear HK'
  have z_W3 : W2.heap.size + 1 ≤ W3.heap.size := by rw [← hW]; simp
  clear hW KS
  have q_BM_0 : ∀ o, (World.alloc W3 o).cell? ⟨W2.heap.size, 0, none⟩ = some (.int .i64 1) := fun o => blk_cell (blk_alloc BM.out o) 0
  have q_BM_1 : ∀ o, (World.alloc W3 o).cell? ⟨W2.heap.size, 1, none⟩ = some (.int .i64 0) := fun o => blk_cell (blk_alloc BM.out o) 1
  have q_BM_2 : ∀ o, (World.alloc W3 o).cell? ⟨W2.heap.size, 2, none⟩ = some (.slice sa data.length sc) := fun o => blk_cell (blk_alloc BM.out o) 2
  have KAF := hid (keeps_alloc (fun _ => False) W3 (.cells #[.int .i64 (garF arg dl).m, .int .i64 (garF arg dl).k, .int .i64 (garF arg dl).dl, .int .i64 (garF arg dl).a, .slice none 0 0, .int .i64 (plaF dl).m, .int .i64 (plaF dl).k, .int .i64 (plaF dl).dl, .int .i64 (plaF dl).a, .slice none 0 0] 36))
  have BWX := hid (blk_keep BW.out KAF.out (fun h => h))
  have SDX := hid (SD.out.keep KAF.out (fun _ _ _ h => h))
  go_wp2_with fail
  refine (Send_any (.slice none 0 0) (.slice (some ⟨w1.heap.size, 0, none⟩) 1 1) (.slice (some ⟨W3.heap.size, 0, none⟩) 2 2) [] [conX] [garF arg dl, plaF dl] 0 1 1 0 sa sc data _ ⟨[], ⟨rfl, .inl ⟨rfl, rfl⟩⟩, fun i x hx => by simp at hx⟩ ((wins_one (x := conX) BWX.out).mono (fun b _ h => by (try simp); omega)) (fts_two rfl rfl (by (first | exact blk_new _ _ _ | exact blk_alloc (blk_new _ _ _) _))) (SDX.out.mono (fun b h _ => h)) HD8.out (by simp) (fun x hx => by simp at hx) (by simp) (fun x hx => by simp at hx; rcases hx with rfl | rfl <;> (show (0 : Nat) ≤ _; omega)) (by omega) (by omega) (by omega) (by omega) (by omega)).mono ?_
  rw [HR1.out]
  rintro e W4 ⟨ar1, nr1, cr1, rfl, rfl, hfr, hk0⟩
  have HFR := hid (FlO.fls hfr)
  have hk : Keeps (fun _ => False) W3 W4 := KAF.out.trans hk0
  clear hfr hk0 BWX SDX KAF
  clear q_BM_0 q_BM_1 q_BM_2
  have HNX' : Hd (NibX W4) := hid (HNX.out.keep hk (fun _ _ _ h => h))
  have SB' : Hd (Sl (fun b => w.heap.size ≤ b ∧ b < w1.heap.size) W4 (.slice a0 few.length c0) (u8s few)) := hid (SB.out.keep hk (fun _ _ _ h => h))
  have BW' : Hd (Blk W4 w1.heap.size #[.int .i64 2, .int .i64 0, .int .i64 1, .int .i64 0, .int .i64 9, .int .i64 100] 25) := hid (blk_keep BW.out hk (fun h => h))
  have SD' : Hd (Sl (fun b => W1.heap.size ≤ b ∧ b < W2.heap.size) W4 (.slice sa data.length sc) (u8s data)) := hid (SD.out.keep hk (fun _ _ _ h => h))
  have BM' : Hd (Blk W4 W2.heap.size #[.int .i64 1, .int .i64 0, .slice sa data.length sc] 29) := hid (blk_keep BM.out hk (fun h => h))
  clear HNX SB BW SD BM
  have HNX := HNX'
  clear HNX'
  have SB := SB'
  clear SB'
  have BW := BW'
  clear BW'
  have SD := SD'
  clear SD'
  have BM := BM'
  clear BM'
  have HK' : Hd (Keeps (fun _ => False) w W4) := hid (HK.out.trans hk)
  clear HK
  have HK := HK'
  clear HK'
  have z_W4 := hk.size
  clear hk
  rw [HRA.out] at HFR ⊢
  have FK : Hd (Fls (fun b => W3.heap.size ≤ b) W4 (.slice ar1 1 cr1) [⟨t, 0, 1, 0, bad⟩]) := hid (HFR.out.mono (fun b _ h => by (try simp only [World.size_alloc] at h); omega))
  clear HFR
  go_upto_region 5 with fail
  generalize hW : World.alloc W4 _ = W5
  have KS : Hd (Keeps (fun _ => False) W4 W5) := hid (by rw [← hW]; exact (Keeps.alloc (Keeps.refl (fun _ => False) W4) _))
  have HNX' : Hd (NibX W5) := hid (HNX.out.keep KS.out (fun _ _ _ h => h))
  have SB' : Hd (Sl (fun b => w.heap.size ≤ b ∧ b < w1.heap.size) W5 (.slice a0 few.length c0) (u8s few)) := hid (SB.out.keep KS.out (fun _ _ _ h => h))
  have BW' : Hd (Blk W5 w1.heap.size #[.int .i64 2, .int .i64 0, .int .i64 1, .int .i64 0, .int .i64 9, .int .i64 100] 25) := hid (by rw [← hW]; exact (blk_alloc BW.out _))
  have SD' : Hd (Sl (fun b => W1.heap.size ≤ b ∧ b < W2.heap.size) W5 (.slice sa data.length sc) (u8s data)) := hid (SD.out.keep KS.out (fun _ _ _ h => h))
  have BM' : Hd (Blk W5 W2.heap.size #[.int .i64 1, .int .i64 0, .slice sa data.length sc] 29) := hid (by rw [← hW]; exact (blk_alloc BM.out _))
  have FK' : Hd (Fls (fun b => W3.heap.size ≤ b) W5 (.slice ar1 1 cr1) [⟨t, 0, 1, 0, bad⟩]) := hid (FK.out.keep KS.out (fun _ _ _ h => h))
  have BK : Hd (Blk W5 W4.heap.size #[.slice ar1 1 cr1, .int .i64 1] 32) := hid (by rw [← hW]; exact (blk_new _ _ _))
  clear HNX SB BW SD BM FK
  have HNX := HNX'
  clear HNX'
  have SB := SB'
  clear SB'
  have BW := BW'
  clear BW'
  have SD := SD'
  clear SD'
  have BM := BM'
  clear BM'
  have FK := FK'
  clear FK'
  have HK' : Hd (Keeps (fun _ => False) w W5) := hid (HK.out.trans KS.out)
  clear HK
  have HK := HK'
  clear HK'
  have z_W5 : W4.heap.size + 1 ≤ W5.heap.size := by rw [← hW]; simp
  clear hW KS
  have o_BK_0 : W5.cell? ⟨W4.heap.size, 0, none⟩ = some (.slice ar1 1 cr1) := blk_cell BK.out 0
  have o_BK_1 : W5.cell? ⟨W4.heap.size, 1, none⟩ = some (.int .i64 1) := blk_cell BK.out 1
  have q_BM_0 : ∀ o, (World.alloc W5 o).cell? ⟨W2.heap.size, 0, none⟩ = some (.int .i64 1) := fun o => blk_cell (blk_alloc BM.out o) 0
  have q_BM_1 : ∀ o, (World.alloc W5 o).cell? ⟨W2.heap.size, 1, none⟩ = some (.int .i64 0) := fun o => blk_cell (blk_alloc BM.out o) 1
  have q_BM_2 : ∀ o, (World.alloc W5 o).cell? ⟨W2.heap.size, 2, none⟩ = some (.slice sa data.length sc) := fun o => blk_cell (blk_alloc BM.out o) 2
  have KAF := hid (keeps_alloc (fun _ => False) W5 (.cells #[.int .i64 (garF arg dl).m, .int .i64 (garF arg dl).k, .int .i64 (garF arg dl).dl, .int .i64 (garF arg dl).a, .slice none 0 0, .int .i64 (plaF dl).m, .int .i64 (plaF dl).k, .int .i64 (plaF dl).dl, .int .i64 (plaF dl).a, .slice none 0 0] 36))
  have BWX := hid (blk_keep BW.out KAF.out (fun h => h))
  have SDX := hid (SD.out.keep KAF.out (fun _ _ _ h => h)); have FKX := hid (FK.out.keep KAF.out (fun _ _ _ h => h))
  go_wp2_with fail
  refine (Send_any (.slice ar1 1 cr1) (.slice (some ⟨w1.heap.size, 0, none⟩) 1 1) (.slice (some ⟨W5.heap.size, 0, none⟩) 2 2) [⟨t, 0, 1, 0, bad⟩] [conX] [garF arg dl, plaF dl] 1 1 1 0 sa sc data _ (FKX.out.mono (fun b h _ => h)) ((wins_one (x := conX) BWX.out).mono (fun b _ h => by (try simp); omega)) (fts_two rfl rfl (by (first | exact blk_new _ _ _ | exact blk_alloc (blk_new _ _ _) _))) (SDX.out.mono (fun b h _ => h)) HD8.out (by simp) (fun x hx => by simp at hx; subst hx; show bad.length ≤ _; omega) (by simp) (fun x hx => by simp at hx; rcases hx with rfl | rfl <;> (show (0 : Nat) ≤ _; omega)) (by omega) (by omega) (by omega) (by omega) (by omega)).mono ?_
  rw [HR2.out]
  rintro e W6 ⟨ar2, nr2, cr2, rfl, rfl, hfr, hk0⟩
  have HFR := hid (FlO.fls hfr)
  have hk : Keeps (fun _ => False) W5 W6 := KAF.out.trans hk0
  clear hfr hk0 BWX SDX KAF FKX
  clear o_BK_0 o_BK_1 q_BM_0 q_BM_1 q_BM_2
  have HNX' : Hd (NibX W6) := hid (HNX.out.keep hk (fun _ _ _ h => h))
  have SB' : Hd (Sl (fun b => w.heap.size ≤ b ∧ b < w1.heap.size) W6 (.slice a0 few.length c0) (u8s few)) := hid (SB.out.keep hk (fun _ _ _ h => h))
  have BW' : Hd (Blk W6 w1.heap.size #[.int .i64 2, .int .i64 0, .int .i64 1, .int .i64 0, .int .i64 9, .int .i64 100] 25) := hid (blk_keep BW.out hk (fun h => h))
  have SD' : Hd (Sl (fun b => W1.heap.size ≤ b ∧ b < W2.heap.size) W6 (.slice sa data.length sc) (u8s data)) := hid (SD.out.keep hk (fun _ _ _ h => h))
  have BM' : Hd (Blk W6 W2.heap.size #[.int .i64 1, .int .i64 0, .slice sa data.length sc] 29) := hid (blk_keep BM.out hk (fun h => h))
  have FK' : Hd (Fls (fun b => W3.heap.size ≤ b) W6 (.slice ar1 1 cr1) [⟨t, 0, 1, 0, bad⟩]) := hid (FK.out.keep hk (fun _ _ _ h => h))
  have BK' : Hd (Blk W6 W4.heap.size #[.slice ar1 1 cr1, .int .i64 1] 32) := hid (blk_keep BK.out hk (fun h => h))
  clear HNX SB BW SD BM FK BK
  have HNX := HNX'
  clear HNX'
  have SB := SB'
  clear SB'
  have BW := BW'
  clear BW'
  have SD := SD'
  clear SD'
  have BM := BM'
  clear BM'
  have FK := FK'
  clear FK'
  have BK := BK'
  clear BK'
  have HK' : Hd (Keeps (fun _ => False) w W6) := hid (HK.out.trans hk)
  clear HK
  have HK := HK'
  clear HK'
  have z_W6 := hk.size
  clear hk
  rw [HRB.out] at HFR ⊢
  have FL : Hd (Fls (fun b => W5.heap.size ≤ b) W6 (.slice ar2 2 cr2) [⟨t, 0, 1, 0, bad⟩, ⟨t, 1, 1, 0, data⟩]) := hid (HFR.out.mono (fun b _ h => by (try simp only [World.size_alloc] at h); omega))
  clear HFR
  clear FK
  have o_BK_0 : W6.cell? ⟨W4.heap.size, 0, none⟩ = some (.slice ar1 1 cr1) := blk_cell BK.out 0
  have o_BK_1 : W6.cell? ⟨W4.heap.size, 1, none⟩ = some (.int .i64 1) := blk_cell BK.out 1
  have f_BK_0 : W6.frozen? ⟨W4.heap.size, 0, none⟩ = false := blk_free BK.out 0
  have f_BK_1 : W6.frozen? ⟨W4.heap.size, 1, none⟩ = false := blk_free BK.out 1
  go_upto_region 6 with fail
  clear o_BK_0 o_BK_1 f_BK_0 f_BK_1
  generalize hW : World.setCell (World.setCell W6 _ _) _ _ = W7
  have KS : Hd (Keeps (fun b => b = W4.heap.size) W6 W7) := hid (by rw [← hW]; exact (Keeps.setCell (S := fun b => b = W4.heap.size) (Keeps.setCell (S := fun b => b = W4.heap.size) (Keeps.refl (fun b => b = W4.heap.size) W6) (.inl rfl) _) (.inl rfl) _))
  have HNX' : Hd (NibX W7) := hid (HNX.out.keep KS.out (fun b _ h1 h2 => by omega))
  have SB' : Hd (Sl (fun b => w.heap.size ≤ b ∧ b < w1.heap.size) W7 (.slice a0 few.length c0) (u8s few)) := hid (SB.out.keep KS.out (fun b _ h1 h2 => by omega))
  have BW' : Hd (Blk W7 w1.heap.size #[.int .i64 2, .int .i64 0, .int .i64 1, .int .i64 0, .int .i64 9, .int .i64 100] 25) := hid (by rw [← hW]; exact (blk_other (blk_other BW.out (by omega) _ _) (by omega) _ _))
  have SD' : Hd (Sl (fun b => W1.heap.size ≤ b ∧ b < W2.heap.size) W7 (.slice sa data.length sc) (u8s data)) := hid (SD.out.keep KS.out (fun b _ h1 h2 => by omega))
  have BM' : Hd (Blk W7 W2.heap.size #[.int .i64 1, .int .i64 0, .slice sa data.length sc] 29) := hid (by rw [← hW]; exact (blk_other (blk_other BM.out (by omega) _ _) (by omega) _ _))
  have BK' : Hd (Blk W7 W4.heap.size #[.slice ar2 2 cr2, .int .i64 2] 32) := hid (by rw [← hW]; exact (blk_set (blk_set BK.out 0 _) 1 _))
  have FL' : Hd (Fls (fun b => W5.heap.size ≤ b) W7 (.slice ar2 2 cr2) [⟨t, 0, 1, 0, bad⟩, ⟨t, 1, 1, 0, data⟩]) := hid (FL.out.keep KS.out (fun b _ h1 h2 => by omega))
  clear HNX SB BW SD BM BK FL
  have HNX := HNX'
  clear HNX'
  have SB := SB'
  clear SB'
  have BW := BW'
  clear BW'
  have SD := SD'
  clear SD'
  have BM := BM'
  clear BM'
  have BK := BK'
  clear BK'
  have FL := FL'
  clear FL'
  have HK' : Hd (Keeps (fun _ => False) w W7) := hid (HK.out.trans' KS.out (fun i hi h => by omega))
  clear HK
  have HK := HK'
  clear HK'
  have z_W7 : W6.heap.size + 0 ≤ W7.heap.size := by rw [← hW]; simp
  clear hW KS
  have o_BK_0 : W7.cell? ⟨W4.heap.size, 0, none⟩ = some (.slice ar2 2 cr2) := blk_cell BK.out 0
  have o_BK_1 : W7.cell? ⟨W4.heap.size, 1, none⟩ = some (.int .i64 2) := blk_cell BK.out 1
  go_wp2_with fail
  refine (Step_any _ [⟨t, 0, 1, 0, bad⟩, ⟨t, 1, 1, 0, data⟩] 2 1002 _ (FL.out.mono (fun b h _ => h)) (by simp) (fun x hx => by simp at hx; rcases hx with rfl | rfl <;> (first | (show bad.length ≤ _; omega) | (show data.length ≤ _; omega)))).mono ?_
  rintro e W8 ⟨xa, xn, xc, so, sm, sp, rfl, hxn, hsm, -, hsr, hk⟩
  rw [HR3.out] at hsm hsr
  obtain rfl : sm = 2 := hsm
  have SA : Hd (Ars (fun b => W7.heap.size ≤ b) W8 (.slice so 2 sp) [⟨t, 0, 1, 0, bad⟩, ⟨t, 1, 1, 0, data⟩]) := hid hsr
  clear hsr
  clear o_BK_0 o_BK_1
  have HNX' : Hd (NibX W8) := hid (HNX.out.keep hk (fun _ _ _ h => h))
  have SB' : Hd (Sl (fun b => w.heap.size ≤ b ∧ b < w1.heap.size) W8 (.slice a0 few.length c0) (u8s few)) := hid (SB.out.keep hk (fun _ _ _ h => h))
  have BW' : Hd (Blk W8 w1.heap.size #[.int .i64 2, .int .i64 0, .int .i64 1, .int .i64 0, .int .i64 9, .int .i64 100] 25) := hid (blk_keep BW.out hk (fun h => h))
  have SD' : Hd (Sl (fun b => W1.heap.size ≤ b ∧ b < W2.heap.size) W8 (.slice sa data.length sc) (u8s data)) := hid (SD.out.keep hk (fun _ _ _ h => h))
  have BM' : Hd (Blk W8 W2.heap.size #[.int .i64 1, .int .i64 0, .slice sa data.length sc] 29) := hid (blk_keep BM.out hk (fun h => h))
  have BK' : Hd (Blk W8 W4.heap.size #[.slice ar2 2 cr2, .int .i64 2] 32) := hid (blk_keep BK.out hk (fun h => h))
  have FL' : Hd (Fls (fun b => W5.heap.size ≤ b) W8 (.slice ar2 2 cr2) [⟨t, 0, 1, 0, bad⟩, ⟨t, 1, 1, 0, data⟩]) := hid (FL.out.keep hk (fun _ _ _ h => h))
  clear HNX SB BW SD BM BK FL
  have HNX := HNX'
  clear HNX'
  have SB := SB'
  clear SB'
  have BW := BW'
  clear BW'
  have SD := SD'
  clear SD'
  have BM := BM'
  clear BM'
  have BK := BK'
  clear BK'
  have FL := FL'
  clear FL'
  have HK' : Hd (Keeps (fun _ => False) w W8) := hid (HK.out.trans hk)
  clear HK
  have HK := HK'
  clear HK'
  have z_W8 := hk.size
  clear hk
  go_upto_region 7 with fail
  generalize hW : World.alloc W8 _ = W9
  have KS : Hd (Keeps (fun _ => False) W8 W9) := hid (by rw [← hW]; exact (Keeps.alloc (Keeps.refl (fun _ => False) W8) _))
  have HNX' : Hd (NibX W9) := hid (HNX.out.keep KS.out (fun _ _ _ h => h))
  have SB' : Hd (Sl (fun b => w.heap.size ≤ b ∧ b < w1.heap.size) W9 (.slice a0 few.length c0) (u8s few)) := hid (SB.out.keep KS.out (fun _ _ _ h => h))
  have BW' : Hd (Blk W9 w1.heap.size #[.int .i64 2, .int .i64 0, .int .i64 1, .int .i64 0, .int .i64 9, .int .i64 100] 25) := hid (by rw [← hW]; exact (blk_alloc BW.out _))
  have SD' : Hd (Sl (fun b => W1.heap.size ≤ b ∧ b < W2.heap.size) W9 (.slice sa data.length sc) (u8s data)) := hid (SD.out.keep KS.out (fun _ _ _ h => h))
  have BM' : Hd (Blk W9 W2.heap.size #[.int .i64 1, .int .i64 0, .slice sa data.length sc] 29) := hid (by rw [← hW]; exact (blk_alloc BM.out _))
  have BK' : Hd (Blk W9 W4.heap.size #[.slice ar2 2 cr2, .int .i64 2] 32) := hid (by rw [← hW]; exact (blk_alloc BK.out _))
  have FL' : Hd (Fls (fun b => W5.heap.size ≤ b) W9 (.slice ar2 2 cr2) [⟨t, 0, 1, 0, bad⟩, ⟨t, 1, 1, 0, data⟩]) := hid (FL.out.keep KS.out (fun _ _ _ h => h))
  have SA' : Hd (Ars (fun b => W7.heap.size ≤ b) W9 (.slice so 2 sp) [⟨t, 0, 1, 0, bad⟩, ⟨t, 1, 1, 0, data⟩]) := hid (SA.out.keep KS.out (fun _ _ _ h => h))
  clear HNX SB BW SD BM BK FL SA
  have HNX := HNX'
  clear HNX'
  have SB := SB'
  clear SB'
  have BW := BW'
  clear BW'
  have SD := SD'
  clear SD'
  have BM := BM'
  clear BM'
  have BK := BK'
  clear BK'
  have FL := FL'
  clear FL'
  have SA := SA'
  clear SA'
  have HK' : Hd (Keeps (fun _ => False) w W9) := hid (HK.out.trans KS.out)
  clear HK
  have HK := HK'
  clear HK'
  have z_W9 : W8.heap.size + 1 ≤ W9.heap.size := by rw [← hW]; simp
  clear hW KS
  obtain ⟨gb, go, rfl, _, hgb, hgc⟩ := ars_cells SA.out (by simp)
  obtain ⟨_, _, ad1, cd1, t1, s1⟩ := hgc 0 _ rfl
  obtain ⟨_, _, ad2, cd2, t2, s2⟩ := hgc 1 _ rfl
  simp only [Nat.zero_mul, Nat.one_mul, Nat.add_zero, List.length_cons, List.length_nil, Nat.zero_add, Nat.reduceAdd] at t1 t2 s1 s2
  have HT2 : Hd (∀ w', Keeps (fun _ => False) W9 w' → w'.cell? ⟨gb, go + 3 + 2, none⟩ = some (.slice ad2 data.length cd2)) := hid (fun w' hk => keep_cell hk (fun h => h) t2)
  have S1 := hid s1; have S2 := hid s2
  clear hgc s1 s2 t2
  clear SA
  go_wp2_with fail
  refine (Cr.Open_any _ _ bad _ HNX.out S1.out HG3.out (by omega)).mono ?_
  rintro e W10 ⟨oa, on, oc, rfl, hon, hoo, hk⟩
  rw [HG1.out]
  clear hon hoo
  have HKO := hid hk
  have HNX' : Hd (NibX W10) := hid (HNX.out.keep hk (fun _ _ _ h => h))
  have SB' : Hd (Sl (fun b => w.heap.size ≤ b ∧ b < w1.heap.size) W10 (.slice a0 few.length c0) (u8s few)) := hid (SB.out.keep hk (fun _ _ _ h => h))
  have BW' : Hd (Blk W10 w1.heap.size #[.int .i64 2, .int .i64 0, .int .i64 1, .int .i64 0, .int .i64 9, .int .i64 100] 25) := hid (blk_keep BW.out hk (fun h => h))
  have SD' : Hd (Sl (fun b => W1.heap.size ≤ b ∧ b < W2.heap.size) W10 (.slice sa data.length sc) (u8s data)) := hid (SD.out.keep hk (fun _ _ _ h => h))
  have BM' : Hd (Blk W10 W2.heap.size #[.int .i64 1, .int .i64 0, .slice sa data.length sc] 29) := hid (blk_keep BM.out hk (fun h => h))
  have BK' : Hd (Blk W10 W4.heap.size #[.slice ar2 2 cr2, .int .i64 2] 32) := hid (blk_keep BK.out hk (fun h => h))
  have FL' : Hd (Fls (fun b => W5.heap.size ≤ b) W10 (.slice ar2 2 cr2) [⟨t, 0, 1, 0, bad⟩, ⟨t, 1, 1, 0, data⟩]) := hid (FL.out.keep hk (fun _ _ _ h => h))
  have S1' : Hd (Sl (fun b => W7.heap.size ≤ b) W10 (.slice ad1 bad.length cd1) (u8s bad)) := hid (S1.out.keep hk (fun _ _ _ h => h))
  have S2' : Hd (Sl (fun b => W7.heap.size ≤ b) W10 (.slice ad2 data.length cd2) (u8s data)) := hid (S2.out.keep hk (fun _ _ _ h => h))
  clear HNX SB BW SD BM BK FL S1 S2
  have HNX := HNX'
  clear HNX'
  have SB := SB'
  clear SB'
  have BW := BW'
  clear BW'
  have SD := SD'
  clear SD'
  have BM := BM'
  clear BM'
  have BK := BK'
  clear BK'
  have FL := FL'
  clear FL'
  have S1 := S1'
  clear S1'
  have S2 := S2'
  clear S2'
  have HK' : Hd (Keeps (fun _ => False) w W10) := hid (HK.out.trans hk)
  clear HK
  have HK := HK'
  clear HK'
  have z_W10 := hk.size
  clear hk
  have t2 : W10.cell? ⟨gb, go + 3 + 2, none⟩ = some (.slice ad2 data.length cd2) := HT2.out _ HKO.out
  clear HT2 t1 HKO
  go_wp2_with fail
  refine (Cr.Open_any _ _ data _ HNX.out S2.out HD8.out (by omega)).mono ?_
  rintro e W11 ⟨pa, pn, pc, rfl, hpn, hpo, hk⟩
  have e1 : Cr.opened data = (few, 0) := by rw [← HSE.out]; exact Cr.opened_seal few
  rw [e1] at hpn hpo ⊢
  obtain rfl : pn = few.length := by rw [hpn]
  have SP : Hd (Sl (fun _ => True) W11 (.slice pa few.length pc) (u8s few)) := hid ((row_sl hpo.row (by rw [u8s_length])).mono (fun _ _ _ => trivial))
  clear e1 hpn hpo t2
  have HNX' : Hd (NibX W11) := hid (HNX.out.keep hk (fun _ _ _ h => h))
  have SB' : Hd (Sl (fun b => w.heap.size ≤ b ∧ b < w1.heap.size) W11 (.slice a0 few.length c0) (u8s few)) := hid (SB.out.keep hk (fun _ _ _ h => h))
  have BW' : Hd (Blk W11 w1.heap.size #[.int .i64 2, .int .i64 0, .int .i64 1, .int .i64 0, .int .i64 9, .int .i64 100] 25) := hid (blk_keep BW.out hk (fun h => h))
  have SD' : Hd (Sl (fun b => W1.heap.size ≤ b ∧ b < W2.heap.size) W11 (.slice sa data.length sc) (u8s data)) := hid (SD.out.keep hk (fun _ _ _ h => h))
  have BM' : Hd (Blk W11 W2.heap.size #[.int .i64 1, .int .i64 0, .slice sa data.length sc] 29) := hid (blk_keep BM.out hk (fun h => h))
  have BK' : Hd (Blk W11 W4.heap.size #[.slice ar2 2 cr2, .int .i64 2] 32) := hid (blk_keep BK.out hk (fun h => h))
  have FL' : Hd (Fls (fun b => W5.heap.size ≤ b) W11 (.slice ar2 2 cr2) [⟨t, 0, 1, 0, bad⟩, ⟨t, 1, 1, 0, data⟩]) := hid (FL.out.keep hk (fun _ _ _ h => h))
  have S1' : Hd (Sl (fun b => W7.heap.size ≤ b) W11 (.slice ad1 bad.length cd1) (u8s bad)) := hid (S1.out.keep hk (fun _ _ _ h => h))
  have S2' : Hd (Sl (fun b => W7.heap.size ≤ b) W11 (.slice ad2 data.length cd2) (u8s data)) := hid (S2.out.keep hk (fun _ _ _ h => h))
  clear HNX SB BW SD BM BK FL S1 S2
  have HNX := HNX'
  clear HNX'
  have SB := SB'
  clear SB'
  have BW := BW'
  clear BW'
  have SD := SD'
  clear SD'
  have BM := BM'
  clear BM'
  have BK := BK'
  clear BK'
  have FL := FL'
  clear FL'
  have S1 := S1'
  clear S1'
  have S2 := S2'
  clear S2'
  have HK' : Hd (Keeps (fun _ => False) w W11) := hid (HK.out.trans hk)
  clear HK
  have HK := HK'
  clear HK'
  have z_W11 := hk.size
  clear hk
  go_wp2_with fail
  refine (SameBytes_any _ _ _ _ few few _ SP.out SB.out HF1.out.2 HF1.out.2).mono ?_
  rw [decide_eq_true (rfl : few = few)]
  rintro e wx ⟨rfl, rfl⟩
  go_wp2_with fail
  refine (lives_any _).mono ?_
  rintro e W12 ⟨rfl, hk⟩
  have HNX' : Hd (NibX W12) := hid (HNX.out.keep hk (fun _ _ _ h => h))
  have SB' : Hd (Sl (fun b => w.heap.size ≤ b ∧ b < w1.heap.size) W12 (.slice a0 few.length c0) (u8s few)) := hid (SB.out.keep hk (fun _ _ _ h => h))
  have BW' : Hd (Blk W12 w1.heap.size #[.int .i64 2, .int .i64 0, .int .i64 1, .int .i64 0, .int .i64 9, .int .i64 100] 25) := hid (blk_keep BW.out hk (fun h => h))
  have SD' : Hd (Sl (fun b => W1.heap.size ≤ b ∧ b < W2.heap.size) W12 (.slice sa data.length sc) (u8s data)) := hid (SD.out.keep hk (fun _ _ _ h => h))
  have BM' : Hd (Blk W12 W2.heap.size #[.int .i64 1, .int .i64 0, .slice sa data.length sc] 29) := hid (blk_keep BM.out hk (fun h => h))
  have BK' : Hd (Blk W12 W4.heap.size #[.slice ar2 2 cr2, .int .i64 2] 32) := hid (blk_keep BK.out hk (fun h => h))
  have FL' : Hd (Fls (fun b => W5.heap.size ≤ b) W12 (.slice ar2 2 cr2) [⟨t, 0, 1, 0, bad⟩, ⟨t, 1, 1, 0, data⟩]) := hid (FL.out.keep hk (fun _ _ _ h => h))
  have S1' : Hd (Sl (fun b => W7.heap.size ≤ b) W12 (.slice ad1 bad.length cd1) (u8s bad)) := hid (S1.out.keep hk (fun _ _ _ h => h))
  have S2' : Hd (Sl (fun b => W7.heap.size ≤ b) W12 (.slice ad2 data.length cd2) (u8s data)) := hid (S2.out.keep hk (fun _ _ _ h => h))
  have SP' : Hd (Sl (fun _ => True) W12 (.slice pa few.length pc) (u8s few)) := hid (SP.out.keep hk (fun _ _ _ h => h))
  clear HNX SB BW SD BM BK FL S1 S2 SP
  have HNX := HNX'
  clear HNX'
  have SB := SB'
  clear SB'
  have BW := BW'
  clear BW'
  have SD := SD'
  clear SD'
  have BM := BM'
  clear BM'
  have BK := BK'
  clear BK'
  have FL := FL'
  clear FL'
  have S1 := S1'
  clear S1'
  have S2 := S2'
  clear S2'
  have SP := SP'
  clear SP'
  have HK' : Hd (Keeps (fun _ => False) w W12) := hid (HK.out.trans hk)
  clear HK
  have HK := HK'
  clear HK'
  have z_W12 := hk.size
  clear hk
  go_wp2
  go_ret
  exact ⟨rfl, HK.out⟩
end Go.Proofs.YtffnocjaljgnoaaDoor
