/- Frame: Decode of the reference. -/
import Derived.Test.YthoikljmokkchaaDoorFrY
import Derived.Test.YthoikljmokkchaaDoorWireI
namespace Go.Proofs.YthoikljmokkchaaDoor
open Go.RowKit
attribute [local go_sem ↓] Go.wp_at_zero Go.wp_at_succ
theorem rv_fail {K : Nat → Prop} {w : World} {bv : Value} {s : Wi.St} (h : Wi.RV K w (.agg #[bv, .int .i64 s.1]) s) : Wi.RV K w (.agg #[bv, .int .i64 (Wi.sFail s 5).1]) (Wi.sFail s 5) := by
  unfold Wi.sFail
  by_cases h0 : s.1 = 0
  · rw [if_pos h0]
    obtain ⟨bv', l, e, h1, h2, h3, _⟩ := h
    refine ⟨bv', l, ?_, h1, h2, h3, fun h => absurd h (by show ¬ ((5 : Int) = 0); decide)⟩
    injection e with e
    have e1 : bv = bv' := by simpa using e
    rw [e1]
  · rw [if_neg h0]; exact h
theorem rv_cells {K : Nat → Prop} {w : World} {v : Value} {s : Wi.St} (h : Wi.RV K w v s) : ∃ a n c, v = .agg #[.slice a n c, .int .i64 s.1] ∧ Wi.RV K w (.agg #[.slice a n c, .int .i64 s.1]) s := by
  have h0 := h
  obtain ⟨bv, l, rfl, h1, _⟩ := h
  obtain ⟨a, c, rfl, _⟩ := h1.bytes
  exact ⟨a, l.length, c, rfl, h0⟩
set_option maxRecDepth 100000 in
set_option maxHeartbeats 1000000 in
theorem VFail_any (a : Option Addr) (n c : Nat) (e0 cd : Int) (w : World) :
    Calls Tryd.prog 90 #[.agg #[.slice a n c, .int .i64 e0], .int .i64 cd] w fun e w' => e = .returned (.agg #[.slice a n c, .int .i64 (if e0 = 0 then cd else e0)]) ∧ Keeps (fun _ => False) w w' := by
  obtain ⟨e1, he⟩ : ∃ e1, (if e0 = 0 then cd else e0) = e1 := ⟨_, rfl⟩
  have HE := hid he
  rw [he]
  clear he
  go_enter Tryd.func90, Tryd.ntmps90
  go_upto_region 1 with fail
  generalize hW : World.alloc (World.alloc w _) _ = W1
  have KS : Hd (Keeps (fun _ => False) w W1) := hid (by rw [← hW]; exact (Keeps.alloc (Keeps.alloc (Keeps.refl (fun _ => False) w) _) _))
  have BA : Hd (Blk W1 w.heap.size #[(.slice a n c), (.int .i64 e0)] 118) := hid (by rw [← hW]; exact (blk_alloc (blk_new _ _ _) _))
  have BR : Hd (Blk W1 (w.heap.size + 1) #[(.slice none 0 0), (.int .i64 0)] 118) := hid (by rw [← hW]; exact (blk_new' _ _ _ _ (by simp)))
  have HK : Hd (Keeps (fun _ => False) w W1) := hid KS.out
  have z_W1 : w.heap.size + 2 ≤ W1.heap.size := by rw [← hW]; simp
  clear hW KS
  have o_BA_0 : W1.cell? ⟨w.heap.size, 0, none⟩ = some ((.slice a n c)) := blk_cell BA.out 0
  have o_BA_1 : W1.cell? ⟨w.heap.size, 1, none⟩ = some ((.int .i64 e0)) := blk_cell BA.out 1
  go_wp2_with fail
  refine (Wi.Vfail_any a n c e0 cd _).mono ?_
  unfold Wi.VFPost
  rw [HE.out]
  rintro e W2 ⟨rfl, hk⟩
  clear o_BA_0 o_BA_1
  have BA' : Hd (Blk W2 w.heap.size #[(.slice a n c), (.int .i64 e0)] 118) := hid (blk_keep BA.out hk (fun h => h))
  have BR' : Hd (Blk W2 (w.heap.size + 1) #[(.slice none 0 0), (.int .i64 0)] 118) := hid (blk_keep BR.out hk (fun h => h))
  clear BA BR
  have BA := BA'
  clear BA'
  have BR := BR'
  clear BR'
  have HK' : Hd (Keeps (fun _ => False) w W2) := hid (HK.out.trans hk)
  clear HK
  have HK := HK'
  clear HK'
  have z_W2 := hk.size
  clear hk
  have o_BR_0 : W2.cell? ⟨w.heap.size + 1, 0, none⟩ = some ((.slice none 0 0)) := blk_cell BR.out 0
  have o_BR_1 : W2.cell? ⟨w.heap.size + 1, 1, none⟩ = some ((.int .i64 0)) := blk_cell BR.out 1
  have f_BR_0 : W2.frozen? ⟨w.heap.size + 1, 0, none⟩ = false := blk_free BR.out 0
  have f_BR_1 : W2.frozen? ⟨w.heap.size + 1, 1, none⟩ = false := blk_free BR.out 1
  go_wp2
  clear o_BR_0 o_BR_1 f_BR_0 f_BR_1
  obtain ⟨HV2, B3⟩ := fin2 HK.out (show w.heap.size ≤ w.heap.size + 1 by omega) BR.out (.slice a n c) (.int .i64 e1)
  have r0 := blk_cell B3 0
  have r1 := blk_cell B3 1
  refine bodyPost_ret (v := .agg #[.slice a n c, .int .i64 e1]) (by simp [results, Tryd.results90, go_sem, r0, r1]) rfl ?_
  exact ⟨rfl, HV2⟩
set_option maxRecDepth 100000 in
set_option maxHeartbeats 8000000 in
theorem RDecode_any (l : List Nat) (K : Nat → Prop) (v : Value) (w : World) (hv : Sl K w v (u8s l)) (hl : ∀ c ∈ l, c < 256) (hm : l.length ≤ 140737488354000) :
    Calls Tryd.prog 53 #[v] w fun e w' => DecR w (decM l) e w' := by
  have HX := hid (hv.mono (K' := fun b => b < w.heap.size) (fun b h _ => h))
  have HLT := hid hl; have HLM := hid hm
  clear hv hl hm
  obtain ⟨⟨ob, oe⟩, ho⟩ : ∃ x, Cr.opened l = x := ⟨_, rfl⟩
  have HOP := hid ho
  have HOL : Hd (∀ c ∈ ob, c < 256) := hid (fun c hc => by
    have h : c ∈ (Cr.opened l).1 := by rw [ho]; exact hc
    unfold Cr.opened at h
    split at h
    · cases h
    · split at h
      · exact HLT.out c (List.mem_of_mem_take h)
      · cases h)
  have HOM : Hd (ob.length ≤ 140737488351000 ∨ ob.length ≤ l.length - 4) := hid (.inr (by
    have h : ob = (Cr.opened l).1 := by rw [ho]
    rw [h]
    unfold Cr.opened
    split
    · exact Nat.zero_le _
    · split
      · rw [List.length_take]; omega
      · exact Nat.zero_le _))
  have HMM : Hd (decM l = if oe = 0 then decB ob else (nilF, oe)) := hid (by unfold decM; rw [ho])
  obtain ⟨MM, hMM⟩ : ∃ MM, decM l = MM := ⟨_, rfl⟩
  rw [hMM] at HMM ⊢
  clear ho hMM
  go_enter Tryd.func53, Tryd.ntmps53
  go_upto_region 1 with fail
  generalize hW : World.alloc w _ = W1
  have KS : Hd (Keeps (fun _ => False) w W1) := hid (by rw [← hW]; exact (Keeps.alloc (Keeps.refl (fun _ => False) w) _))
  have HX' : Hd (Sl (fun b => b < w.heap.size) W1 v (u8s l)) := hid (HX.out.keep KS.out (fun _ _ _ h => h))
  have BR : Hd (Blk W1 w.heap.size #[(.int .i64 0), (.int .i64 0), (.bool false), (.slice none 0 0), (.int .u64 0)] 25) := hid (by rw [← hW]; exact (blk_new _ _ _))
  clear HX
  have HX := HX'
  clear HX'
  have HK : Hd (Keeps (fun _ => False) w W1) := hid KS.out
  have z_W1 : w.heap.size + 1 ≤ W1.heap.size := by rw [← hW]; simp
  clear hW KS
  go_wp2_with fail
  refine (Cr.ROpen_any _ _ l _ HX.out HLT.out HLM.out).mono ?_
  unfold Cr.OpenRet
  rw [HOP.out]
  simp only []
  rintro e W2 ⟨ao, no, co, rfl, hno, hoo, hk⟩
  have HOO := hid hoo; have HNO := hid hno
  clear hoo hno
  have HX' : Hd (Sl (fun b => b < w.heap.size) W2 v (u8s l)) := hid (HX.out.keep hk (fun _ _ _ h => h))
  have BR' : Hd (Blk W2 w.heap.size #[(.int .i64 0), (.int .i64 0), (.bool false), (.slice none 0 0), (.int .u64 0)] 25) := hid (blk_keep BR.out hk (fun h => h))
  clear HX BR
  have HX := HX'
  clear HX'
  have BR := BR'
  clear BR'
  have HK' : Hd (Keeps (fun _ => False) w W2) := hid (HK.out.trans hk)
  clear HK
  have HK := HK'
  clear HK'
  have z_W2 := hk.size
  clear hk
  clear HX
  have HOO' : Hd (Own (fun k => w.heap.size < k) W2 5 1 (.slice ao no co) no (u8s ob)) := hid (HOO.out.mono (fun b _ h => by omega))
  clear HOO
  have HOO := HOO'
  clear HOO'
  by_cases her : oe = 0
  · subst her
    have HM2 : Hd (MM = decB ob) := hid (HMM.out.trans (if_pos rfl))
    clear HMM
    have HRV : Hd (Wi.RV (fun b => w.heap.size < b ∧ b < W2.heap.size) W2 (.agg #[.slice ao no co, .int .i64 0]) (0, ob)) := hid ⟨_, ob, rfl, row_sl (HOO.out.row.mono (fun b hb h => ⟨h, hb⟩)) (by rw [u8s_length]; exact HNO.out.symm), by have := HOM.out; have := HLM.out; omega, HOL.out, fun _ => rfl⟩
    clear HOO
    go_upto_region 5 with fail
    generalize hW : World.alloc W2 _ = W3
    have KS : Hd (Keeps (fun _ => False) W2 W3) := hid (by rw [← hW]; exact (Keeps.alloc (Keeps.refl (fun _ => False) W2) _))
    have BR' : Hd (Blk W3 w.heap.size #[(.int .i64 0), (.int .i64 0), (.bool false), (.slice none 0 0), (.int .u64 0)] 25) := hid (by rw [← hW]; exact (blk_alloc BR.out _))
    have HRV' : Hd (Wi.RV (fun b => w.heap.size < b ∧ b < W2.heap.size) W3 (.agg #[.slice ao no co, .int .i64 0]) (0, ob)) := hid (HRV.out.keep KS.out (fun _ _ _ h => h))
    have B6 : Hd (Blk W3 W2.heap.size #[(.slice ao no co), (.int .i64 0)] 118) := hid (by rw [← hW]; exact (blk_new _ _ _))
    clear BR HRV
    have BR := BR'
    clear BR'
    have HRV := HRV'
    clear HRV'
    have HK' : Hd (Keeps (fun _ => False) w W3) := hid (HK.out.trans KS.out)
    clear HK
    have HK := HK'
    clear HK'
    have z_W3 : W2.heap.size + 1 ≤ W3.heap.size := by rw [← hW]; simp
    clear hW KS
    generalize hb_B6 : W2.heap.size = b_B6 at *
    have lt6 : w.heap.size < b_B6 := by omega
    obtain ⟨⟨s1, u⟩, h1⟩ : ∃ x, d1 ob = x := ⟨_, rfl⟩
    obtain ⟨o1, ho1⟩ : ∃ o, decide (u < 256) = o := ⟨_, rfl⟩
    obtain ⟨s2, h2⟩ : ∃ x, d2 ob = x := ⟨_, rfl⟩
    have e2 : chk o1 s1 = s2 := by rw [← h2]; unfold d2; rw [h1, ← ho1]
    obtain ⟨⟨s3, kk⟩, h3⟩ : ∃ x, d3 ob = x := ⟨_, rfl⟩
    obtain ⟨o2, ho2⟩ : ∃ o, decide (0 ≤ kk) = o := ⟨_, rfl⟩
    obtain ⟨s4, h4⟩ : ∃ x, d4 ob = x := ⟨_, rfl⟩
    have e4 : chk o2 s3 = s4 := by rw [← h4]; unfold d4; rw [h3, ← ho2]
    obtain ⟨⟨s5, un⟩, h5⟩ : ∃ x, d5 ob = x := ⟨_, rfl⟩
    obtain ⟨o3, ho3⟩ : ∃ o, decide (un ≤ 1) = o := ⟨_, rfl⟩
    obtain ⟨s6, h6⟩ : ∃ x, d6 ob = x := ⟨_, rfl⟩
    have e6 : chk o3 s5 = s6 := by rw [← h6]; unfold d6; rw [h5, ← ho3]
    obtain ⟨⟨s7, bd⟩, h7⟩ : ∃ x, d7 ob = x := ⟨_, rfl⟩
    obtain ⟨⟨s8, tg⟩, h8⟩ : ∃ x, d8 ob = x := ⟨_, rfl⟩
    obtain ⟨er, h9⟩ : ∃ x, d9 ob = x := ⟨_, rfl⟩
    obtain ⟨o4, ho4⟩ : ∃ o, decide (un = 1) = o := ⟨_, rfl⟩
    have HD9 : Hd (d9 ob = er) := hid h9
    have HD1 : Hd ((d1 ob).2 = u) := hid (by rw [h1])
    have E1 : Hd (Wi.sU (0, ob) = (s1, u)) := hid h1
    have E2 : Hd (chk o1 s1 = s2) := hid e2
    have E3 : Hd (Wi.sI s2 = (s3, kk)) := hid (by rw [← h2]; exact h3)
    have E4 : Hd (chk o2 s3 = s4) := hid e4
    have E5 : Hd (Wi.sU s4 = (s5, un)) := hid (by rw [← h4]; exact h5)
    have E6 : Hd (chk o3 s5 = s6) := hid e6
    have E7 : Hd (Wi.sB 512 s6 = (s7, bd)) := hid (by rw [← h6]; exact h7)
    have E8 : Hd (Wi.sU s7 = (s8, tg)) := hid (by have h := h8; unfold d8 at h; rw [h7] at h; exact h)
    have E9 : Hd (Wi.sEnd s8 = er) := hid (by have h := h9; unfold d9 at h; rw [h8] at h; exact h)
    have HMB : Hd (decB ob = if er = 0 then (⟨(u : Int), kk, o4, bd, tg⟩, 0) else (nilF, er)) := hid (by unfold decB; rw [h9, h1, h3, h5, h7, h8, ← ho4])
    have O1 := hid ho1; have O2 := hid ho2; have O3 := hid ho3; have O4 := hid ho4
    clear h1 ho1 h2 e2 h3 ho2 h4 e4 h5 ho3 h6 e6 h7 h8 h9 ho4
    have o_B6_0 : W3.cell? ⟨b_B6, 0, none⟩ = some ((.slice ao no co)) := blk_cell B6.out 0
    have o_B6_1 : W3.cell? ⟨b_B6, 1, none⟩ = some ((.int .i64 0)) := blk_cell B6.out 1
    go_wp2_with fail
    refine (Wi.VUint_any _ _ _ _ HRV.out).mono ?_
    unfold Wi.VUPost
    rw [E1.out]
    simp only []
    rintro e V1 ⟨vv, rfl, hr, hk⟩
    obtain ⟨ra1, rn1, rc1, rfl, hr⟩ := rv_cells hr
    have HR2 := hid hr
    clear hr
    clear HRV
    clear o_B6_0 o_B6_1
    have BR' : Hd (Blk V1 w.heap.size #[(.int .i64 0), (.int .i64 0), (.bool false), (.slice none 0 0), (.int .u64 0)] 25) := hid (blk_keep BR.out hk (fun h => h))
    have B6' : Hd (Blk V1 b_B6 #[(.slice ao no co), (.int .i64 0)] 118) := hid (blk_keep B6.out hk (fun h => h))
    clear BR B6
    have BR := BR'
    clear BR'
    have B6 := B6'
    clear B6'
    have HK' : Hd (Keeps (fun _ => False) w V1) := hid (HK.out.trans hk)
    clear HK
    have HK := HK'
    clear HK'
    have z_V1 := hk.size
    clear hk
    have HRV : Hd (Wi.RV (fun b => b ≠ b_B6) V1 (.agg #[.slice ra1 rn1 rc1, .int .i64 s1.1]) s1) := hid (HR2.out.mono (fun b hb h => by first | exact h | omega))
    clear HR2
    have o_B6_0 : V1.cell? ⟨b_B6, 0, none⟩ = some ((.slice ao no co)) := blk_cell B6.out 0
    have o_B6_1 : V1.cell? ⟨b_B6, 1, none⟩ = some ((.int .i64 0)) := blk_cell B6.out 1
    have f_B6_0 : V1.frozen? ⟨b_B6, 0, none⟩ = false := blk_free B6.out 0
    have f_B6_1 : V1.frozen? ⟨b_B6, 1, none⟩ = false := blk_free B6.out 1
    go_upto_region 6 with fail
    clear o_B6_0 o_B6_1 f_B6_0 f_B6_1
    generalize hW : World.setCell (World.setCell V1 _ _) _ _ = W4
    have KS : Hd (Keeps (fun b => b = b_B6) V1 W4) := hid (by rw [← hW]; exact (Keeps.setCell (S := fun b => b = b_B6) (p := ⟨b_B6, 1, none⟩) (Keeps.setCell (S := fun b => b = b_B6) (p := ⟨b_B6, 0, none⟩) (Keeps.refl (fun b => b = b_B6) V1) (.inl rfl) _) (.inl rfl) _))
    have BR' : Hd (Blk W4 w.heap.size #[(.int .i64 0), (.int .i64 0), (.bool false), (.slice none 0 0), (.int .u64 0)] 25) := hid (by rw [← hW]; exact (blk_other (blk_other BR.out (by omega) _ _) (by omega) _ _))
    have B6' : Hd (Blk W4 b_B6 #[(.slice ra1 rn1 rc1), (.int .i64 s1.1)] 118) := hid (by rw [← hW]; exact (blk_set (blk_set B6.out 0 _) 1 _))
    have HRV' : Hd (Wi.RV (fun b => b ≠ b_B6) W4 (.agg #[.slice ra1 rn1 rc1, .int .i64 s1.1]) s1) := hid (HRV.out.keep KS.out (fun b _ h1 h2 => by first | exact h1 h2 | omega))
    clear BR B6 HRV
    have BR := BR'
    clear BR'
    have B6 := B6'
    clear B6'
    have HRV := HRV'
    clear HRV'
    have HK' : Hd (Keeps (fun _ => False) w W4) := hid (HK.out.trans' KS.out (fun i hi h => by omega))
    clear HK
    have HK := HK'
    clear HK'
    have z_W4 : V1.heap.size + 0 ≤ W4.heap.size := by rw [← hW]; simp
    clear hW KS
    go_upto_if 30 with (fail)
    go_cut [] from 30 to 32 (fun wx => ∃ (xa : Option Addr) (xn xc : Nat), Hd (Blk wx b_B6 #[.slice xa xn xc, .int .i64 s2.1] 118) ∧ Hd (Wi.RV (fun b => b ≠ b_B6) wx (.agg #[.slice xa xn xc, .int .i64 s2.1]) s2) ∧ Hd (Keeps (fun b => b = b_B6) W4 wx))
    case first =>
      cases hok : o1
      · have HSS : Hd (s2 = Wi.sFail s1 5) := hid (by rw [← E2.out, hok]; rfl)
        have HO' := hid (O1.out.trans hok)
        clear hok
        have q0 := of_decide_eq_false HO'.out
        have q1 : (255 : Int) < (u : Int) := by omega
        have q2 : 255 < u := by omega
        have o_B6_0 : W4.cell? ⟨b_B6, 0, none⟩ = some ((.slice ra1 rn1 rc1)) := blk_cell B6.out 0
        have o_B6_1 : W4.cell? ⟨b_B6, 1, none⟩ = some ((.int .i64 s1.1)) := blk_cell B6.out 1
        go_wp2_with fail
        refine (VFail_any ra1 rn1 rc1 s1.1 5 _).mono ?_
        rintro e Y ⟨rfl, hk⟩
        have hif : (if s1.1 = 0 then (5 : Int) else s1.1) = (Wi.sFail s1 5).1 := by unfold Wi.sFail; split <;> rfl
        rw [hif]
        clear hif
        have hk0 := hid hk
        clear o_B6_0 o_B6_1
        have BR' : Hd (Blk Y w.heap.size #[(.int .i64 0), (.int .i64 0), (.bool false), (.slice none 0 0), (.int .u64 0)] 25) := hid (blk_keep BR.out hk (fun h => h))
        have B6' : Hd (Blk Y b_B6 #[(.slice ra1 rn1 rc1), (.int .i64 s1.1)] 118) := hid (blk_keep B6.out hk (fun h => h))
        have HRV' : Hd (Wi.RV (fun b => b ≠ b_B6) Y (.agg #[.slice ra1 rn1 rc1, .int .i64 s1.1]) s1) := hid (HRV.out.keep hk (fun _ _ _ h => h))
        clear BR B6 HRV
        have BR := BR'
        clear BR'
        have B6 := B6'
        clear B6'
        have HRV := HRV'
        clear HRV'
        have HK' : Hd (Keeps (fun _ => False) w Y) := hid (HK.out.trans hk)
        clear HK
        have HK := HK'
        clear HK'
        have z_Y := hk.size
        clear hk
        rw [← HSS.out]
        have o_B6_0 : Y.cell? ⟨b_B6, 0, none⟩ = some ((.slice ra1 rn1 rc1)) := blk_cell B6.out 0
        have o_B6_1 : Y.cell? ⟨b_B6, 1, none⟩ = some ((.int .i64 s1.1)) := blk_cell B6.out 1
        have f_B6_0 : Y.frozen? ⟨b_B6, 0, none⟩ = false := blk_free B6.out 0
        have f_B6_1 : Y.frozen? ⟨b_B6, 1, none⟩ = false := blk_free B6.out 1
        go_wp2_with fail
        go_meet
        clear o_B6_0 o_B6_1 f_B6_0 f_B6_1
        refine ⟨ra1, rn1, rc1, hid ?_, hid ?_, hid ?_⟩
        · have h := blk_set (blk_set B6.out 0 (.slice ra1 rn1 rc1)) 1 (.int .i64 s2.1)
          simp only [List.setIfInBounds_toArray, List.set_cons_zero, List.set_cons_succ] at h
          exact h
        · rw [HSS.out]; exact rv_fail (HRV.out.keep (((Keeps.refl (fun b => b = b_B6) Y).setCell (p := ⟨b_B6, 0, none⟩) (.inl rfl) _).setCell (p := ⟨b_B6, 1, none⟩) (.inl rfl) _) (fun b _ h1 h2 => h1 h2))
        · exact (hk0.out.mono (fun _ _ h => h.elim)).trans (((Keeps.refl (fun b => b = b_B6) Y).setCell (p := ⟨b_B6, 0, none⟩) (.inl rfl) _).setCell (p := ⟨b_B6, 1, none⟩) (.inl rfl) _)
      · have HSS : Hd (s2 = s1) := hid (by rw [← E2.out, hok]; rfl)
        have HO' := hid (O1.out.trans hok)
        clear hok
        have q0 := of_decide_eq_true HO'.out
        have q1 : ¬ ((255 : Int) < (u : Int)) := by omega
        have q2 : ¬ (255 < u) := by omega
        go_wp2_with fail
        go_meet
        exact ⟨ra1, rn1, rc1, hid (by rw [HSS.out]; exact B6.out), hid (by rw [HSS.out]; exact HRV.out), hid (Keeps.refl _ _)⟩
    case rest =>
      obtain ⟨xa2, xn2, xc2, B62, HRV2, hk⟩ := hcut
      replace hk := hk.out
      generalize wc = X2 at *
      clear HRV
      clear B6
      have BR' : Hd (Blk X2 w.heap.size #[(.int .i64 0), (.int .i64 0), (.bool false), (.slice none 0 0), (.int .u64 0)] 25) := hid (blk_keep BR.out hk (fun h => by omega))
      clear BR
      have BR := BR'
      clear BR'
      have HK' : Hd (Keeps (fun _ => False) w X2) := hid (HK.out.trans' hk (fun i hi h => by omega))
      clear HK
      have HK := HK'
      clear HK'
      have z_X2 := hk.size
      clear hk
      have B6 := B62; have HRV := HRV2
      clear B62 HRV2
      have o_B6_0 : X2.cell? ⟨b_B6, 0, none⟩ = some ((.slice xa2 xn2 xc2)) := blk_cell B6.out 0
      have o_B6_1 : X2.cell? ⟨b_B6, 1, none⟩ = some ((.int .i64 s2.1)) := blk_cell B6.out 1
      go_wp2_with fail
      refine (Wi.VInt_any _ _ _ _ HRV.out).mono ?_
      unfold Wi.VIPost
      rw [E3.out]
      simp only []
      rintro e V3 ⟨vv, rfl, hr, hk⟩
      obtain ⟨ra3, rn3, rc3, rfl, hr⟩ := rv_cells hr
      have HR2 := hid hr
      clear hr
      clear HRV
      clear o_B6_0 o_B6_1
      have BR' : Hd (Blk V3 w.heap.size #[(.int .i64 0), (.int .i64 0), (.bool false), (.slice none 0 0), (.int .u64 0)] 25) := hid (blk_keep BR.out hk (fun h => h))
      have B6' : Hd (Blk V3 b_B6 #[(.slice xa2 xn2 xc2), (.int .i64 s2.1)] 118) := hid (blk_keep B6.out hk (fun h => h))
      clear BR B6
      have BR := BR'
      clear BR'
      have B6 := B6'
      clear B6'
      have HK' : Hd (Keeps (fun _ => False) w V3) := hid (HK.out.trans hk)
      clear HK
      have HK := HK'
      clear HK'
      have z_V3 := hk.size
      clear hk
      have HRV : Hd (Wi.RV (fun b => b ≠ b_B6) V3 (.agg #[.slice ra3 rn3 rc3, .int .i64 s3.1]) s3) := hid (HR2.out.mono (fun b hb h => by first | exact h | omega))
      clear HR2
      have o_B6_0 : V3.cell? ⟨b_B6, 0, none⟩ = some ((.slice xa2 xn2 xc2)) := blk_cell B6.out 0
      have o_B6_1 : V3.cell? ⟨b_B6, 1, none⟩ = some ((.int .i64 s2.1)) := blk_cell B6.out 1
      have f_B6_0 : V3.frozen? ⟨b_B6, 0, none⟩ = false := blk_free B6.out 0
      have f_B6_1 : V3.frozen? ⟨b_B6, 1, none⟩ = false := blk_free B6.out 1
      go_upto_region 9 with fail
      clear o_B6_0 o_B6_1 f_B6_0 f_B6_1
      generalize hW : World.setCell (World.setCell V3 _ _) _ _ = W201
      have KS : Hd (Keeps (fun b => b = b_B6) V3 W201) := hid (by rw [← hW]; exact (Keeps.setCell (S := fun b => b = b_B6) (p := ⟨b_B6, 1, none⟩) (Keeps.setCell (S := fun b => b = b_B6) (p := ⟨b_B6, 0, none⟩) (Keeps.refl (fun b => b = b_B6) V3) (.inl rfl) _) (.inl rfl) _))
      have BR' : Hd (Blk W201 w.heap.size #[(.int .i64 0), (.int .i64 0), (.bool false), (.slice none 0 0), (.int .u64 0)] 25) := hid (by rw [← hW]; exact (blk_other (blk_other BR.out (by omega) _ _) (by omega) _ _))
      have B6' : Hd (Blk W201 b_B6 #[(.slice ra3 rn3 rc3), (.int .i64 s3.1)] 118) := hid (by rw [← hW]; exact (blk_set (blk_set B6.out 0 _) 1 _))
      have HRV' : Hd (Wi.RV (fun b => b ≠ b_B6) W201 (.agg #[.slice ra3 rn3 rc3, .int .i64 s3.1]) s3) := hid (HRV.out.keep KS.out (fun b _ h1 h2 => by first | exact h1 h2 | omega))
      clear BR B6 HRV
      have BR := BR'
      clear BR'
      have B6 := B6'
      clear B6'
      have HRV := HRV'
      clear HRV'
      have HK' : Hd (Keeps (fun _ => False) w W201) := hid (HK.out.trans' KS.out (fun i hi h => by omega))
      clear HK
      have HK := HK'
      clear HK'
      have z_W201 : V3.heap.size + 0 ≤ W201.heap.size := by rw [← hW]; simp
      clear hW KS
      go_upto_if 39 with (fail)
      go_cut [] from 39 to 41 (fun wx => ∃ (xa : Option Addr) (xn xc : Nat), Hd (Blk wx b_B6 #[.slice xa xn xc, .int .i64 s4.1] 118) ∧ Hd (Wi.RV (fun b => b ≠ b_B6) wx (.agg #[.slice xa xn xc, .int .i64 s4.1]) s4) ∧ Hd (Keeps (fun b => b = b_B6) W201 wx))
      case first =>
        cases hok : o2
        · have HSS : Hd (s4 = Wi.sFail s3 5) := hid (by rw [← E4.out, hok]; rfl)
          have HO' := hid (O2.out.trans hok)
          clear hok
          have q0 := of_decide_eq_false HO'.out
          have q1 : kk < 0 := by omega
          have o_B6_0 : W201.cell? ⟨b_B6, 0, none⟩ = some ((.slice ra3 rn3 rc3)) := blk_cell B6.out 0
          have o_B6_1 : W201.cell? ⟨b_B6, 1, none⟩ = some ((.int .i64 s3.1)) := blk_cell B6.out 1
          go_wp2_with fail
          refine (VFail_any ra3 rn3 rc3 s3.1 5 _).mono ?_
          rintro e Y ⟨rfl, hk⟩
          have hif : (if s3.1 = 0 then (5 : Int) else s3.1) = (Wi.sFail s3 5).1 := by unfold Wi.sFail; split <;> rfl
          rw [hif]
          clear hif
          have hk0 := hid hk
          clear o_B6_0 o_B6_1
          have BR' : Hd (Blk Y w.heap.size #[(.int .i64 0), (.int .i64 0), (.bool false), (.slice none 0 0), (.int .u64 0)] 25) := hid (blk_keep BR.out hk (fun h => h))
          have B6' : Hd (Blk Y b_B6 #[(.slice ra3 rn3 rc3), (.int .i64 s3.1)] 118) := hid (blk_keep B6.out hk (fun h => h))
          have HRV' : Hd (Wi.RV (fun b => b ≠ b_B6) Y (.agg #[.slice ra3 rn3 rc3, .int .i64 s3.1]) s3) := hid (HRV.out.keep hk (fun _ _ _ h => h))
          clear BR B6 HRV
          have BR := BR'
          clear BR'
          have B6 := B6'
          clear B6'
          have HRV := HRV'
          clear HRV'
          have HK' : Hd (Keeps (fun _ => False) w Y) := hid (HK.out.trans hk)
          clear HK
          have HK := HK'
          clear HK'
          have z_Y := hk.size
          clear hk
          rw [← HSS.out]
          have o_B6_0 : Y.cell? ⟨b_B6, 0, none⟩ = some ((.slice ra3 rn3 rc3)) := blk_cell B6.out 0
          have o_B6_1 : Y.cell? ⟨b_B6, 1, none⟩ = some ((.int .i64 s3.1)) := blk_cell B6.out 1
          have f_B6_0 : Y.frozen? ⟨b_B6, 0, none⟩ = false := blk_free B6.out 0
          have f_B6_1 : Y.frozen? ⟨b_B6, 1, none⟩ = false := blk_free B6.out 1
          go_wp2_with fail
          go_meet
          clear o_B6_0 o_B6_1 f_B6_0 f_B6_1
          refine ⟨ra3, rn3, rc3, hid ?_, hid ?_, hid ?_⟩
          · have h := blk_set (blk_set B6.out 0 (.slice ra3 rn3 rc3)) 1 (.int .i64 s4.1)
            simp only [List.setIfInBounds_toArray, List.set_cons_zero, List.set_cons_succ] at h
            exact h
          · rw [HSS.out]; exact rv_fail (HRV.out.keep (((Keeps.refl (fun b => b = b_B6) Y).setCell (p := ⟨b_B6, 0, none⟩) (.inl rfl) _).setCell (p := ⟨b_B6, 1, none⟩) (.inl rfl) _) (fun b _ h1 h2 => h1 h2))
          · exact (hk0.out.mono (fun _ _ h => h.elim)).trans (((Keeps.refl (fun b => b = b_B6) Y).setCell (p := ⟨b_B6, 0, none⟩) (.inl rfl) _).setCell (p := ⟨b_B6, 1, none⟩) (.inl rfl) _)
        · have HSS : Hd (s4 = s3) := hid (by rw [← E4.out, hok]; rfl)
          have HO' := hid (O2.out.trans hok)
          clear hok
          have q0 := of_decide_eq_true HO'.out
          have q1 : ¬ (kk < 0) := by omega
          go_wp2_with fail
          go_meet
          exact ⟨ra3, rn3, rc3, hid (by rw [HSS.out]; exact B6.out), hid (by rw [HSS.out]; exact HRV.out), hid (Keeps.refl _ _)⟩
      case rest =>
        obtain ⟨xa4, xn4, xc4, B62, HRV2, hk⟩ := hcut
        replace hk := hk.out
        generalize wc = X4 at *
        clear HRV
        clear B6
        have BR' : Hd (Blk X4 w.heap.size #[(.int .i64 0), (.int .i64 0), (.bool false), (.slice none 0 0), (.int .u64 0)] 25) := hid (blk_keep BR.out hk (fun h => by omega))
        clear BR
        have BR := BR'
        clear BR'
        have HK' : Hd (Keeps (fun _ => False) w X4) := hid (HK.out.trans' hk (fun i hi h => by omega))
        clear HK
        have HK := HK'
        clear HK'
        have z_X4 := hk.size
        clear hk
        have B6 := B62; have HRV := HRV2
        clear B62 HRV2
        have o_B6_0 : X4.cell? ⟨b_B6, 0, none⟩ = some ((.slice xa4 xn4 xc4)) := blk_cell B6.out 0
        have o_B6_1 : X4.cell? ⟨b_B6, 1, none⟩ = some ((.int .i64 s4.1)) := blk_cell B6.out 1
        go_wp2_with fail
        refine (Wi.VUint_any _ _ _ _ HRV.out).mono ?_
        unfold Wi.VUPost
        rw [E5.out]
        simp only []
        rintro e V5 ⟨vv, rfl, hr, hk⟩
        obtain ⟨ra5, rn5, rc5, rfl, hr⟩ := rv_cells hr
        have HR2 := hid hr
        clear hr
        clear HRV
        clear o_B6_0 o_B6_1
        have BR' : Hd (Blk V5 w.heap.size #[(.int .i64 0), (.int .i64 0), (.bool false), (.slice none 0 0), (.int .u64 0)] 25) := hid (blk_keep BR.out hk (fun h => h))
        have B6' : Hd (Blk V5 b_B6 #[(.slice xa4 xn4 xc4), (.int .i64 s4.1)] 118) := hid (blk_keep B6.out hk (fun h => h))
        clear BR B6
        have BR := BR'
        clear BR'
        have B6 := B6'
        clear B6'
        have HK' : Hd (Keeps (fun _ => False) w V5) := hid (HK.out.trans hk)
        clear HK
        have HK := HK'
        clear HK'
        have z_V5 := hk.size
        clear hk
        have HRV : Hd (Wi.RV (fun b => b ≠ b_B6) V5 (.agg #[.slice ra5 rn5 rc5, .int .i64 s5.1]) s5) := hid (HR2.out.mono (fun b hb h => by first | exact h | omega))
        clear HR2
        have o_B6_0 : V5.cell? ⟨b_B6, 0, none⟩ = some ((.slice xa4 xn4 xc4)) := blk_cell B6.out 0
        have o_B6_1 : V5.cell? ⟨b_B6, 1, none⟩ = some ((.int .i64 s4.1)) := blk_cell B6.out 1
        have f_B6_0 : V5.frozen? ⟨b_B6, 0, none⟩ = false := blk_free B6.out 0
        have f_B6_1 : V5.frozen? ⟨b_B6, 1, none⟩ = false := blk_free B6.out 1
        go_upto_region 12 with fail
        clear o_B6_0 o_B6_1 f_B6_0 f_B6_1
        generalize hW : World.setCell (World.setCell V5 _ _) _ _ = W401
        have KS : Hd (Keeps (fun b => b = b_B6) V5 W401) := hid (by rw [← hW]; exact (Keeps.setCell (S := fun b => b = b_B6) (p := ⟨b_B6, 1, none⟩) (Keeps.setCell (S := fun b => b = b_B6) (p := ⟨b_B6, 0, none⟩) (Keeps.refl (fun b => b = b_B6) V5) (.inl rfl) _) (.inl rfl) _))
        have BR' : Hd (Blk W401 w.heap.size #[(.int .i64 0), (.int .i64 0), (.bool false), (.slice none 0 0), (.int .u64 0)] 25) := hid (by rw [← hW]; exact (blk_other (blk_other BR.out (by omega) _ _) (by omega) _ _))
        have B6' : Hd (Blk W401 b_B6 #[(.slice ra5 rn5 rc5), (.int .i64 s5.1)] 118) := hid (by rw [← hW]; exact (blk_set (blk_set B6.out 0 _) 1 _))
        have HRV' : Hd (Wi.RV (fun b => b ≠ b_B6) W401 (.agg #[.slice ra5 rn5 rc5, .int .i64 s5.1]) s5) := hid (HRV.out.keep KS.out (fun b _ h1 h2 => by first | exact h1 h2 | omega))
        clear BR B6 HRV
        have BR := BR'
        clear BR'
        have B6 := B6'
        clear B6'
        have HRV := HRV'
        clear HRV'
        have HK' : Hd (Keeps (fun _ => False) w W401) := hid (HK.out.trans' KS.out (fun i hi h => by omega))
        clear HK
        have HK := HK'
        clear HK'
        have z_W401 : V5.heap.size + 0 ≤ W401.heap.size := by rw [← hW]; simp
        clear hW KS
        go_upto_if 48 with (fail)
        go_cut [] from 48 to 50 (fun wx => ∃ (xa : Option Addr) (xn xc : Nat), Hd (Blk wx b_B6 #[.slice xa xn xc, .int .i64 s6.1] 118) ∧ Hd (Wi.RV (fun b => b ≠ b_B6) wx (.agg #[.slice xa xn xc, .int .i64 s6.1]) s6) ∧ Hd (Keeps (fun b => b = b_B6) W401 wx))
        case first =>
          cases hok : o3
          · have HSS : Hd (s6 = Wi.sFail s5 5) := hid (by rw [← E6.out, hok]; rfl)
            have HO' := hid (O3.out.trans hok)
            clear hok
            have q0 := of_decide_eq_false HO'.out
            have q1 : (1 : Int) < (un : Int) := by omega
            have q2 : 1 < un := by omega
            have o_B6_0 : W401.cell? ⟨b_B6, 0, none⟩ = some ((.slice ra5 rn5 rc5)) := blk_cell B6.out 0
            have o_B6_1 : W401.cell? ⟨b_B6, 1, none⟩ = some ((.int .i64 s5.1)) := blk_cell B6.out 1
            go_wp2_with fail
            refine (VFail_any ra5 rn5 rc5 s5.1 5 _).mono ?_
            rintro e Y ⟨rfl, hk⟩
            have hif : (if s5.1 = 0 then (5 : Int) else s5.1) = (Wi.sFail s5 5).1 := by unfold Wi.sFail; split <;> rfl
            rw [hif]
            clear hif
            have hk0 := hid hk
            clear o_B6_0 o_B6_1
            have BR' : Hd (Blk Y w.heap.size #[(.int .i64 0), (.int .i64 0), (.bool false), (.slice none 0 0), (.int .u64 0)] 25) := hid (blk_keep BR.out hk (fun h => h))
            have B6' : Hd (Blk Y b_B6 #[(.slice ra5 rn5 rc5), (.int .i64 s5.1)] 118) := hid (blk_keep B6.out hk (fun h => h))
            have HRV' : Hd (Wi.RV (fun b => b ≠ b_B6) Y (.agg #[.slice ra5 rn5 rc5, .int .i64 s5.1]) s5) := hid (HRV.out.keep hk (fun _ _ _ h => h))
            clear BR B6 HRV
            have BR := BR'
            clear BR'
            have B6 := B6'
            clear B6'
            have HRV := HRV'
            clear HRV'
            have HK' : Hd (Keeps (fun _ => False) w Y) := hid (HK.out.trans hk)
            clear HK
            have HK := HK'
            clear HK'
            have z_Y := hk.size
            clear hk
            rw [← HSS.out]
            have o_B6_0 : Y.cell? ⟨b_B6, 0, none⟩ = some ((.slice ra5 rn5 rc5)) := blk_cell B6.out 0
            have o_B6_1 : Y.cell? ⟨b_B6, 1, none⟩ = some ((.int .i64 s5.1)) := blk_cell B6.out 1
            have f_B6_0 : Y.frozen? ⟨b_B6, 0, none⟩ = false := blk_free B6.out 0
            have f_B6_1 : Y.frozen? ⟨b_B6, 1, none⟩ = false := blk_free B6.out 1
            go_wp2_with fail
            go_meet
            clear o_B6_0 o_B6_1 f_B6_0 f_B6_1
            refine ⟨ra5, rn5, rc5, hid ?_, hid ?_, hid ?_⟩
            · have h := blk_set (blk_set B6.out 0 (.slice ra5 rn5 rc5)) 1 (.int .i64 s6.1)
              simp only [List.setIfInBounds_toArray, List.set_cons_zero, List.set_cons_succ] at h
              exact h
            · rw [HSS.out]; exact rv_fail (HRV.out.keep (((Keeps.refl (fun b => b = b_B6) Y).setCell (p := ⟨b_B6, 0, none⟩) (.inl rfl) _).setCell (p := ⟨b_B6, 1, none⟩) (.inl rfl) _) (fun b _ h1 h2 => h1 h2))
            · exact (hk0.out.mono (fun _ _ h => h.elim)).trans (((Keeps.refl (fun b => b = b_B6) Y).setCell (p := ⟨b_B6, 0, none⟩) (.inl rfl) _).setCell (p := ⟨b_B6, 1, none⟩) (.inl rfl) _)
          · have HSS : Hd (s6 = s5) := hid (by rw [← E6.out, hok]; rfl)
            have HO' := hid (O3.out.trans hok)
            clear hok
            have q0 := of_decide_eq_true HO'.out
            have q1 : ¬ ((1 : Int) < (un : Int)) := by omega
            have q2 : ¬ (1 < un) := by omega
            go_wp2_with fail
            go_meet
            exact ⟨ra5, rn5, rc5, hid (by rw [HSS.out]; exact B6.out), hid (by rw [HSS.out]; exact HRV.out), hid (Keeps.refl _ _)⟩
        case rest =>
          obtain ⟨xa6, xn6, xc6, B62, HRV2, hk⟩ := hcut
          replace hk := hk.out
          generalize wc = X6 at *
          clear HRV
          clear B6
          have BR' : Hd (Blk X6 w.heap.size #[(.int .i64 0), (.int .i64 0), (.bool false), (.slice none 0 0), (.int .u64 0)] 25) := hid (blk_keep BR.out hk (fun h => by omega))
          clear BR
          have BR := BR'
          clear BR'
          have HK' : Hd (Keeps (fun _ => False) w X6) := hid (HK.out.trans' hk (fun i hi h => by omega))
          clear HK
          have HK := HK'
          clear HK'
          have z_X6 := hk.size
          clear hk
          have B6 := B62; have HRV := HRV2
          clear B62 HRV2
          have o_B6_0 : X6.cell? ⟨b_B6, 0, none⟩ = some ((.slice xa6 xn6 xc6)) := blk_cell B6.out 0
          have o_B6_1 : X6.cell? ⟨b_B6, 1, none⟩ = some ((.int .i64 s6.1)) := blk_cell B6.out 1
          go_wp2_with fail
          refine (Wi.VBytes_any _ _ 512 _ _ HRV.out (by omega)).mono ?_
          unfold Wi.VBPost
          rw [E7.out]
          simp only []
          rintro e V7 ⟨vv, a7, n7, c7, rfl, hn7, ho7, hr, hk⟩
          obtain ⟨ra7, rn7, rc7, rfl, hr⟩ := rv_cells hr
          have HR2 := hid hr
          clear hr
          clear HRV
          clear o_B6_0 o_B6_1
          have BR' : Hd (Blk V7 w.heap.size #[(.int .i64 0), (.int .i64 0), (.bool false), (.slice none 0 0), (.int .u64 0)] 25) := hid (blk_keep BR.out hk (fun h => h))
          have B6' : Hd (Blk V7 b_B6 #[(.slice xa6 xn6 xc6), (.int .i64 s6.1)] 118) := hid (blk_keep B6.out hk (fun h => h))
          clear BR B6
          have BR := BR'
          clear BR'
          have B6 := B6'
          clear B6'
          have HK' : Hd (Keeps (fun _ => False) w V7) := hid (HK.out.trans hk)
          clear HK
          have HK := HK'
          clear HK'
          have z_V7 := hk.size
          clear hk
          have HN7 := hid hn7; have HO7 := hid (ho7.mono (K' := fun b => b_B6 < b) (fun b _ h => by omega))
          clear hn7 ho7
          have HRV : Hd (Wi.RV (fun b => b ≠ b_B6) V7 (.agg #[.slice ra7 rn7 rc7, .int .i64 s7.1]) s7) := hid (HR2.out.mono (fun b hb h => by first | exact h | omega))
          clear HR2
          have o_B6_0 : V7.cell? ⟨b_B6, 0, none⟩ = some ((.slice xa6 xn6 xc6)) := blk_cell B6.out 0
          have o_B6_1 : V7.cell? ⟨b_B6, 1, none⟩ = some ((.int .i64 s6.1)) := blk_cell B6.out 1
          have f_B6_0 : V7.frozen? ⟨b_B6, 0, none⟩ = false := blk_free B6.out 0
          have f_B6_1 : V7.frozen? ⟨b_B6, 1, none⟩ = false := blk_free B6.out 1
          go_upto_region 15 with fail
          clear o_B6_0 o_B6_1 f_B6_0 f_B6_1
          generalize hW : World.setCell (World.setCell V7 _ _) _ _ = W601
          have KS : Hd (Keeps (fun b => b = b_B6) V7 W601) := hid (by rw [← hW]; exact (Keeps.setCell (S := fun b => b = b_B6) (p := ⟨b_B6, 1, none⟩) (Keeps.setCell (S := fun b => b = b_B6) (p := ⟨b_B6, 0, none⟩) (Keeps.refl (fun b => b = b_B6) V7) (.inl rfl) _) (.inl rfl) _))
          have BR' : Hd (Blk W601 w.heap.size #[(.int .i64 0), (.int .i64 0), (.bool false), (.slice none 0 0), (.int .u64 0)] 25) := hid (by rw [← hW]; exact (blk_other (blk_other BR.out (by omega) _ _) (by omega) _ _))
          have B6' : Hd (Blk W601 b_B6 #[(.slice ra7 rn7 rc7), (.int .i64 s7.1)] 118) := hid (by rw [← hW]; exact (blk_set (blk_set B6.out 0 _) 1 _))
          have HO7' : Hd (Sl (fun b => b_B6 < b) W601 (.slice a7 n7 c7) (u8s bd)) := hid (HO7.out.keep KS.out (fun b _ h1 h2 => by omega))
          have HRV' : Hd (Wi.RV (fun b => b ≠ b_B6) W601 (.agg #[.slice ra7 rn7 rc7, .int .i64 s7.1]) s7) := hid (HRV.out.keep KS.out (fun b _ h1 h2 => by first | exact h1 h2 | omega))
          clear BR B6 HO7 HRV
          have BR := BR'
          clear BR'
          have B6 := B6'
          clear B6'
          have HO7 := HO7'
          clear HO7'
          have HRV := HRV'
          clear HRV'
          have HK' : Hd (Keeps (fun _ => False) w W601) := hid (HK.out.trans' KS.out (fun i hi h => by omega))
          clear HK
          have HK := HK'
          clear HK'
          have z_W601 : V7.heap.size + 0 ≤ W601.heap.size := by rw [← hW]; simp
          clear hW KS
          have o_B6_0 : W601.cell? ⟨b_B6, 0, none⟩ = some ((.slice ra7 rn7 rc7)) := blk_cell B6.out 0
          have o_B6_1 : W601.cell? ⟨b_B6, 1, none⟩ = some ((.int .i64 s7.1)) := blk_cell B6.out 1
          go_wp2_with fail
          refine (Wi.VUint_any _ _ _ _ HRV.out).mono ?_
          unfold Wi.VUPost
          rw [E8.out]
          simp only []
          rintro e V8 ⟨vv, rfl, hr, hk⟩
          obtain ⟨ra8, rn8, rc8, rfl, hr⟩ := rv_cells hr
          have HR2 := hid hr
          clear hr
          clear HRV
          clear o_B6_0 o_B6_1
          have BR' : Hd (Blk V8 w.heap.size #[(.int .i64 0), (.int .i64 0), (.bool false), (.slice none 0 0), (.int .u64 0)] 25) := hid (blk_keep BR.out hk (fun h => h))
          have B6' : Hd (Blk V8 b_B6 #[(.slice ra7 rn7 rc7), (.int .i64 s7.1)] 118) := hid (blk_keep B6.out hk (fun h => h))
          have HO7' : Hd (Sl (fun b => b_B6 < b) V8 (.slice a7 n7 c7) (u8s bd)) := hid (HO7.out.keep hk (fun _ _ _ h => h))
          clear BR B6 HO7
          have BR := BR'
          clear BR'
          have B6 := B6'
          clear B6'
          have HO7 := HO7'
          clear HO7'
          have HK' : Hd (Keeps (fun _ => False) w V8) := hid (HK.out.trans hk)
          clear HK
          have HK := HK'
          clear HK'
          have z_V8 := hk.size
          clear hk
          have HRV : Hd (Wi.RV (fun b => b ≠ b_B6) V8 (.agg #[.slice ra8 rn8 rc8, .int .i64 s8.1]) s8) := hid (HR2.out.mono (fun b hb h => by first | exact h | omega))
          clear HR2
          have o_B6_0 : V8.cell? ⟨b_B6, 0, none⟩ = some ((.slice ra7 rn7 rc7)) := blk_cell B6.out 0
          have o_B6_1 : V8.cell? ⟨b_B6, 1, none⟩ = some ((.int .i64 s7.1)) := blk_cell B6.out 1
          have f_B6_0 : V8.frozen? ⟨b_B6, 0, none⟩ = false := blk_free B6.out 0
          have f_B6_1 : V8.frozen? ⟨b_B6, 1, none⟩ = false := blk_free B6.out 1
          go_upto_region 16 with fail
          clear o_B6_0 o_B6_1 f_B6_0 f_B6_1
          generalize hW : World.setCell (World.setCell V8 _ _) _ _ = W602
          have KS : Hd (Keeps (fun b => b = b_B6) V8 W602) := hid (by rw [← hW]; exact (Keeps.setCell (S := fun b => b = b_B6) (p := ⟨b_B6, 1, none⟩) (Keeps.setCell (S := fun b => b = b_B6) (p := ⟨b_B6, 0, none⟩) (Keeps.refl (fun b => b = b_B6) V8) (.inl rfl) _) (.inl rfl) _))
          have BR' : Hd (Blk W602 w.heap.size #[(.int .i64 0), (.int .i64 0), (.bool false), (.slice none 0 0), (.int .u64 0)] 25) := hid (by rw [← hW]; exact (blk_other (blk_other BR.out (by omega) _ _) (by omega) _ _))
          have B6' : Hd (Blk W602 b_B6 #[(.slice ra8 rn8 rc8), (.int .i64 s8.1)] 118) := hid (by rw [← hW]; exact (blk_set (blk_set B6.out 0 _) 1 _))
          have HO7' : Hd (Sl (fun b => b_B6 < b) W602 (.slice a7 n7 c7) (u8s bd)) := hid (HO7.out.keep KS.out (fun b _ h1 h2 => by omega))
          have HRV' : Hd (Wi.RV (fun b => b ≠ b_B6) W602 (.agg #[.slice ra8 rn8 rc8, .int .i64 s8.1]) s8) := hid (HRV.out.keep KS.out (fun b _ h1 h2 => by first | exact h1 h2 | omega))
          clear BR B6 HO7 HRV
          have BR := BR'
          clear BR'
          have B6 := B6'
          clear B6'
          have HO7 := HO7'
          clear HO7'
          have HRV := HRV'
          clear HRV'
          have HK' : Hd (Keeps (fun _ => False) w W602) := hid (HK.out.trans' KS.out (fun i hi h => by omega))
          clear HK
          have HK := HK'
          clear HK'
          have z_W602 : V8.heap.size + 0 ≤ W602.heap.size := by rw [← hW]; simp
          clear hW KS
          have o_B6_0 : W602.cell? ⟨b_B6, 0, none⟩ = some ((.slice ra8 rn8 rc8)) := blk_cell B6.out 0
          have o_B6_1 : W602.cell? ⟨b_B6, 1, none⟩ = some ((.int .i64 s8.1)) := blk_cell B6.out 1
          go_wp2_with fail
          refine (Wi.VEnd_any _ _ _ _ HRV.out).mono ?_
          rw [E9.out]
          rintro e V20 ⟨rfl, hk⟩
          clear o_B6_0 o_B6_1
          have BR' : Hd (Blk V20 w.heap.size #[(.int .i64 0), (.int .i64 0), (.bool false), (.slice none 0 0), (.int .u64 0)] 25) := hid (blk_keep BR.out hk (fun h => h))
          have B6' : Hd (Blk V20 b_B6 #[(.slice ra8 rn8 rc8), (.int .i64 s8.1)] 118) := hid (blk_keep B6.out hk (fun h => h))
          have HO7' : Hd (Sl (fun b => b_B6 < b) V20 (.slice a7 n7 c7) (u8s bd)) := hid (HO7.out.keep hk (fun _ _ _ h => h))
          have HRV' : Hd (Wi.RV (fun b => b ≠ b_B6) V20 (.agg #[.slice ra8 rn8 rc8, .int .i64 s8.1]) s8) := hid (HRV.out.keep hk (fun _ _ _ h => h))
          clear BR B6 HO7 HRV
          have BR := BR'
          clear BR'
          have B6 := B6'
          clear B6'
          have HO7 := HO7'
          clear HO7'
          have HRV := HRV'
          clear HRV'
          have HK' : Hd (Keeps (fun _ => False) w V20) := hid (HK.out.trans hk)
          clear HK
          have HK := HK'
          clear HK'
          have z_V20 := hk.size
          clear hk
          have qx1 : ((un : Int) == 1) = o4 := by rw [← O4.out]; rw [Bool.eq_iff_iff]; simp; omega
          have qx2 : (un == 1) = o4 := by rw [← O4.out]; rw [Bool.eq_iff_iff]; simp
          by_cases hz : er = 0
          · have HUZ : Hd (d9 ob = 0 ∧ (d1 ob).2 = u) := hid ⟨HD9.out.trans hz, HD1.out⟩
            have HM4 : Hd (MM = (⟨(u : Int), kk, o4, bd, tg⟩, 0)) := hid (HM2.out.trans (HMB.out.trans (if_pos hz)))
            subst hz
            have hcu : IntKind.i64.wrap (u : Int) = (u : Int) := IntWalk.i64_in _ (by have := dec_small HUZ.out; omega)
            have o_BR_0 : V20.cell? ⟨w.heap.size, 0, none⟩ = some ((.int .i64 0)) := blk_cell BR.out 0
            have o_BR_1 : V20.cell? ⟨w.heap.size, 1, none⟩ = some ((.int .i64 0)) := blk_cell BR.out 1
            have o_BR_2 : V20.cell? ⟨w.heap.size, 2, none⟩ = some ((.bool false)) := blk_cell BR.out 2
            have o_BR_3 : V20.cell? ⟨w.heap.size, 3, none⟩ = some ((.slice none 0 0)) := blk_cell BR.out 3
            have o_BR_4 : V20.cell? ⟨w.heap.size, 4, none⟩ = some ((.int .u64 0)) := blk_cell BR.out 4
            have f_BR_0 : V20.frozen? ⟨w.heap.size, 0, none⟩ = false := blk_free BR.out 0
            have f_BR_1 : V20.frozen? ⟨w.heap.size, 1, none⟩ = false := blk_free BR.out 1
            have f_BR_2 : V20.frozen? ⟨w.heap.size, 2, none⟩ = false := blk_free BR.out 2
            have f_BR_3 : V20.frozen? ⟨w.heap.size, 3, none⟩ = false := blk_free BR.out 3
            have f_BR_4 : V20.frozen? ⟨w.heap.size, 4, none⟩ = false := blk_free BR.out 4
            go_wp2
            clear o_BR_0 o_BR_1 o_BR_2 o_BR_3 o_BR_4 f_BR_0 f_BR_1 f_BR_2 f_BR_3 f_BR_4
            clear hcu qx1 qx2
            obtain ⟨HV2, B3⟩ := fin5 HK.out (show w.heap.size ≤ w.heap.size by omega) BR.out (.int .i64 (u : Int)) (.int .i64 kk) (.bool o4) (.slice a7 n7 c7) (.int .u64 (tg : Int))
            have r0 := blk_cell B3 0
            have r1 := blk_cell B3 1
            have r2 := blk_cell B3 2
            have r3 := blk_cell B3 3
            have r4 := blk_cell B3 4
            have k9 := keep5 V20 w.heap.size (.int .i64 (u : Int)) (.int .i64 kk) (.bool o4) (.slice a7 n7 c7) (.int .u64 (tg : Int))
            refine bodyPost_ret (v := .tuple #[.agg #[(.int .i64 (u : Int)), (.int .i64 kk), (.bool o4), (.slice a7 n7 c7), (.int .u64 (tg : Int))], .int .i64 0]) (by simp [results, Tryd.results53, go_sem, r0, r1, r2, r3, r4]) rfl ?_
            exact decR_mk (a := a7) (c := c7) (n := n7) HM4.out (by have h := HN7.out; omega) rfl ((HO7.out.keep k9 (fun b _ h1 h2 => by omega)).mono (fun b _ h => by omega)) HV2
          · have hne : (er == 0) = false := by simp; exact hz
            have hne2 : (er != 0) = true := by simp; exact hz
            have o_BR_0 : V20.cell? ⟨w.heap.size, 0, none⟩ = some ((.int .i64 0)) := blk_cell BR.out 0
            have o_BR_1 : V20.cell? ⟨w.heap.size, 1, none⟩ = some ((.int .i64 0)) := blk_cell BR.out 1
            have o_BR_2 : V20.cell? ⟨w.heap.size, 2, none⟩ = some ((.bool false)) := blk_cell BR.out 2
            have o_BR_3 : V20.cell? ⟨w.heap.size, 3, none⟩ = some ((.slice none 0 0)) := blk_cell BR.out 3
            have o_BR_4 : V20.cell? ⟨w.heap.size, 4, none⟩ = some ((.int .u64 0)) := blk_cell BR.out 4
            have f_BR_0 : V20.frozen? ⟨w.heap.size, 0, none⟩ = false := blk_free BR.out 0
            have f_BR_1 : V20.frozen? ⟨w.heap.size, 1, none⟩ = false := blk_free BR.out 1
            have f_BR_2 : V20.frozen? ⟨w.heap.size, 2, none⟩ = false := blk_free BR.out 2
            have f_BR_3 : V20.frozen? ⟨w.heap.size, 3, none⟩ = false := blk_free BR.out 3
            have f_BR_4 : V20.frozen? ⟨w.heap.size, 4, none⟩ = false := blk_free BR.out 4
            go_wp2
            clear o_BR_0 o_BR_1 o_BR_2 o_BR_3 o_BR_4 f_BR_0 f_BR_1 f_BR_2 f_BR_3 f_BR_4
            obtain ⟨HV2, B3⟩ := fin5 HK.out (show w.heap.size ≤ w.heap.size by omega) BR.out (.int .i64 0) (.int .i64 0) (.bool false) (.slice none 0 0) (.int .u64 0)
            have r0 := blk_cell B3 0
            have r1 := blk_cell B3 1
            have r2 := blk_cell B3 2
            have r3 := blk_cell B3 3
            have r4 := blk_cell B3 4
            have k9 := keep5 V20 w.heap.size (.int .i64 0) (.int .i64 0) (.bool false) (.slice none 0 0) (.int .u64 0)
            refine bodyPost_ret (v := .tuple #[.agg #[(.int .i64 0), (.int .i64 0), (.bool false), (.slice none 0 0), (.int .u64 0)], .int .i64 er]) (by simp [results, Tryd.results53, go_sem, r0, r1, r2, r3, r4]) rfl ?_
            exact decR_mk (a := none) (c := 0) (n := 0) (HM2.out.trans (HMB.out.trans (if_neg hz))) rfl rfl (Sl.nil _ _) HV2
  · have hne : (oe == 0) = false := by simp; exact her
    have hne2 : (oe != 0) = true := by simp; exact her
    have o_BR_0 : W2.cell? ⟨w.heap.size, 0, none⟩ = some ((.int .i64 0)) := blk_cell BR.out 0
    have o_BR_1 : W2.cell? ⟨w.heap.size, 1, none⟩ = some ((.int .i64 0)) := blk_cell BR.out 1
    have o_BR_2 : W2.cell? ⟨w.heap.size, 2, none⟩ = some ((.bool false)) := blk_cell BR.out 2
    have o_BR_3 : W2.cell? ⟨w.heap.size, 3, none⟩ = some ((.slice none 0 0)) := blk_cell BR.out 3
    have o_BR_4 : W2.cell? ⟨w.heap.size, 4, none⟩ = some ((.int .u64 0)) := blk_cell BR.out 4
    have f_BR_0 : W2.frozen? ⟨w.heap.size, 0, none⟩ = false := blk_free BR.out 0
    have f_BR_1 : W2.frozen? ⟨w.heap.size, 1, none⟩ = false := blk_free BR.out 1
    have f_BR_2 : W2.frozen? ⟨w.heap.size, 2, none⟩ = false := blk_free BR.out 2
    have f_BR_3 : W2.frozen? ⟨w.heap.size, 3, none⟩ = false := blk_free BR.out 3
    have f_BR_4 : W2.frozen? ⟨w.heap.size, 4, none⟩ = false := blk_free BR.out 4
    go_wp2
    clear o_BR_0 o_BR_1 o_BR_2 o_BR_3 o_BR_4 f_BR_0 f_BR_1 f_BR_2 f_BR_3 f_BR_4
    obtain ⟨HV2, B3⟩ := fin5 HK.out (show w.heap.size ≤ w.heap.size by omega) BR.out (.int .i64 0) (.int .i64 0) (.bool false) (.slice none 0 0) (.int .u64 0)
    have r0 := blk_cell B3 0
    have r1 := blk_cell B3 1
    have r2 := blk_cell B3 2
    have r3 := blk_cell B3 3
    have r4 := blk_cell B3 4
    have k9 := keep5 W2 w.heap.size (.int .i64 0) (.int .i64 0) (.bool false) (.slice none 0 0) (.int .u64 0)
    refine bodyPost_ret (v := .tuple #[.agg #[(.int .i64 0), (.int .i64 0), (.bool false), (.slice none 0 0), (.int .u64 0)], .int .i64 oe]) (by simp [results, Tryd.results53, go_sem, r0, r1, r2, r3, r4]) rfl ?_
    exact decR_mk (a := none) (c := 0) (n := 0) (HMM.out.trans (if_neg her)) rfl rfl (Sl.nil _ _) HV2
end Go.Proofs.YthoikljmokkchaaDoor
