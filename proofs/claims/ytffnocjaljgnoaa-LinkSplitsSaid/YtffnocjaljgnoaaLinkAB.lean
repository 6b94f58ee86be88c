/- Link: LinkSplits walked. -/
import Derived.Test.YtffnocjaljgnoaaLinkAA
namespace Go.Proofs.Ytffnocjaljgnoaa
open Go.RowKit
attribute [local go_sem ↓] Go.wp_at_zero Go.wp_at_succ
theorem ar_one {K : Nat → Prop} {w : World} {xs : List Value} {l : List Flt} (h : ArC K w xs l) : ∀ u ∈ xs, u.oneCell' = true := by
  intro u hu
  obtain ⟨p, hp, rfl⟩ := List.getElem_of_mem hu
  have hl := h.1
  have hi : p / 3 < l.length := by omega
  have key : ∀ j, p % 3 = j → xs[p] = xs.getD (p / 3 * 3 + j) undef := fun j hj => by
    have : p / 3 * 3 + j = p := by omega
    rw [this, List.getD, List.getElem?_eq_getElem hp]; rfl
  obtain ⟨c0, c1, c2⟩ := h.2 _ _ (List.getElem?_eq_getElem hi)
  rcases (show p % 3 = 0 ∨ p % 3 = 1 ∨ p % 3 = 2 by omega) with hj | hj | hj
  · rw [key 0 hj]; exact (congrArg Value.oneCell' c0).trans rfl
  · rw [key 1 hj]; exact (congrArg Value.oneCell' c1).trans rfl
  · rw [key 2 hj]
    obtain ⟨a, cap, e, _⟩ := c2.bytes
    exact (congrArg Value.oneCell' e).trans rfl
theorem ArC.append {K : Nat → Prop} {w : World} {xs ys : List Value} {l m : List Flt} (h : ArC K w xs l) (h2 : ArC K w ys m) : ArC K w (xs ++ ys) (l ++ m) := by
  refine ⟨by rw [List.length_append, List.length_append, h.1, h2.1]; omega, fun i y hi => ?_⟩
  rcases Nat.lt_or_ge i l.length with hl | hl
  · rw [List.getElem?_append_left hl] at hi
    refine (h.2 i y hi).congr (fun j hj => ?_)
    unfold List.getD
    rw [List.getElem?_append_left (by rw [h.1]; omega)]
  · rw [List.getElem?_append_right hl] at hi
    refine (h2.2 _ y hi).congr (fun j hj => ?_)
    unfold List.getD
    rw [List.getElem?_append_right (by rw [h.1]; omega), h.1]
    congr 2; omega
theorem ArC.mono {K K' : Nat → Prop} {w : World} {xs : List Value} {l : List Flt} (h : ArC K w xs l) (hd : ∀ b, b < w.heap.size → K b → K' b) : ArC K' w xs l := ⟨h.1, fun i x hi => (h.2 i x hi).mono hd⟩
theorem Ars.c {K : Nat → Prop} {w : World} {v : Value} {l : List Flt} (h : Ars K w v l) : ∃ xs, Row K w 3 v l.length xs ∧ ArC K w xs l := by
  obtain ⟨xs, h1, h2⟩ := h
  exact ⟨xs, h1, h1.1, h2⟩
theorem fold_nn (l : List Flt) : ∀ o : Int, 0 ≤ o → 0 ≤ l.foldl (fun o x => max o (x.t + 1)) o := by
  induction l with
  | nil => intro o h; exact h
  | cons x l ih => intro o h; exact ih _ (by show (0 : Int) ≤ max o (x.t + 1); omega)
theorem refQuiet_nn (l : List Flt) : 0 ≤ refQuiet l := fold_nn l 0 (Int.le_refl _)
theorem wpList_unguard {P : Program} {w : World} {ops : Array Oper} {rest : List Oper} {o : Oper} {a : Act} {Q : Exit → Act → World → Prop} (hw : Region.wanted o (yielded ops a.tmps) = true) (h : wpList P ops Q ({o with guard := none} :: rest) a w) : wpList P ops Q (o :: rest) a w := by
  have hw2 : Region.wanted {o with guard := none} (yielded ops a.tmps) = true := by simp [Region.wanted]
  unfold wpList at h ⊢
  rw [if_pos hw2] at h
  rw [if_pos hw]
  exact h
set_option maxRecDepth 100000 in set_option maxHeartbeats 1000000 in
theorem splits_any (v0 v1 v2 v3 : Value) (l0 : List Int) (m1 : Nat) (l2 : List Nat) (m3 : Nat) (ta tb : Int) (w : World) (h0 : Sl (fun b => b < w.heap.size) w v0 (i64s l0)) (hl0 : ∀ n ∈ l0, -9223372036854775808 ≤ n ∧ n ≤ 9223372036854775807) (h1 : ArrS 4 (fun b => b < w.heap.size) w v1 m1) (h2 : Sl (fun b => b < w.heap.size) w v2 (u8s l2)) (hl2 : ∀ c ∈ l2, c < 256) (h3 : ArrS 2 (fun b => b < w.heap.size) w v3 m3) (h4 : -9223372036854775808 ≤ ta ∧ ta ≤ 9223372036854775807) (h5 : -9223372036854775808 ≤ tb ∧ tb ≤ 9223372036854775807) :
    Calls Try.prog 7 #[v0, v1, v2, v3, .int .i64 ta, .int .i64 tb] w fun e w' => e = .returned (.bool true) ∧ Keeps (fun _ => False) w w' := by
  have H4 := hid h4; have H5 := hid h5
  obtain ⟨i0, zz, hi, hz0, hz1, hz2, hz3⟩ := ar_parts
  have H0 := hid h0; have H1 := hid h1; have H2 := hid h2; have H3 := hid h3; have HL0 := hid hl0; have HL2 := hid hl2
  clear h0 h1 h2 h3 hl0 hl2
  go_enter Try.func7, Try.ntmps7
  go_wp2_with fail
  refine (Table_any _ l0 _ H0.out HL0.out).mono ?_
  rintro e W1 ⟨at', nt, ct, ws, rfl, rfl, hw8, hws, hsw, hk⟩
  have HWS := hid hws; have HSW := hid hsw; clear hws hsw
  have HK : Hd (Keeps (fun _ => False) w W1) := hid hk
  have z_W1 := hk.size
  clear hk
  go_wp2_with fail
  refine (Fates_any _ _ m1 l2 _ ((H1.out.keep HK.out (fun _ _ _ h => h)).mono (fun b h _ => h)) ((H2.out.keep HK.out (fun _ _ _ h => h)).mono (fun b h _ => h)) HL2.out).mono ?_
  rintro e W2 ⟨af, nf, cf, fts, rfl, rfl, hf6, hfs, hok, hk⟩
  have HFS := hid hfs; have HOK := hid hok; clear hfs hok
  have HWS' : Hd (Wins (fun b => w.heap.size ≤ b) W2 (.slice at' ws.length ct) ws) := hid (HWS.out.keep hk (fun _ _ _ h => h))
  clear HWS
  have HWS := HWS'
  clear HWS'
  have HK' : Hd (Keeps (fun _ => False) w W2) := hid (HK.out.trans hk)
  clear HK
  have HK := HK'
  clear HK'
  have z_W2 := hk.size
  clear hk
  go_wp2_with fail
  refine (sent_any _ _ _ ws fts m3 _ (HWS.out.mono (fun b h _ => h)) HSW.out (HFS.out.mono (fun b h _ => h)) hf6 HOK.out ((H3.out.keep HK.out (fun _ _ _ h => h)).mono (fun b h _ => h))).mono ?_
  rintro e W3 ⟨l, cn, tick, a1, c1, a2, c2, rfl, hG, htk, hcn, hF1, hF2, hk⟩
  have HG := hid hG; have F1 := hid hF1; have F2 := hid hF2; clear hG hF1 hF2
  have HWS' : Hd (Wins (fun b => w.heap.size ≤ b) W3 (.slice at' ws.length ct) ws) := hid (HWS.out.keep hk (fun _ _ _ h => h))
  have HFS' : Hd (Fts (fun b => W1.heap.size ≤ b) W3 (.slice af fts.length cf) fts) := hid (HFS.out.keep hk (fun _ _ _ h => h))
  clear HWS HFS
  have HWS := HWS'
  clear HWS'
  have HFS := HFS'
  clear HFS'
  have HK' : Hd (Keeps (fun _ => False) w W3) := hid (HK.out.trans hk)
  clear HK
  have HK := HK'
  clear HK'
  have z_W3 := hk.size
  clear hk
  clear HWS HFS F2
  go_upto_region 2 with fail
  generalize hW : World.alloc (World.alloc W3 _) _ = W4
  have KS : Hd (Keeps (fun _ => False) W3 W4) := hid (by rw [← hW]; exact (Keeps.alloc (Keeps.alloc (Keeps.refl (fun _ => False) W3) _) _))
  have F1' : Hd (Fls (fun b => W2.heap.size ≤ b) W4 (.slice a1 l.length c1) l) := hid (F1.out.keep KS.out (fun _ _ _ h => h))
  have BK : Hd (Blk W4 W3.heap.size #[.slice a1 l.length c1, .int .i64 cn] 28) := hid (by rw [← hW]; exact (blk_alloc (blk_new _ _ _) _))
  clear F1
  have F1 := F1'
  clear F1'
  have HK' : Hd (Keeps (fun _ => False) w W4) := hid (HK.out.trans KS.out)
  clear HK
  have HK := HK'
  clear HK'
  have z_W4 : W3.heap.size + 2 ≤ W4.heap.size := by rw [← hW]; simp
  clear hW KS
  have hlm : l.length ≤ 24 := HG.out.len
  have HT : Hd (∀ x ∈ l, 0 ≤ x.t ∧ x.t ≤ 1000000000000000) := hid (fun x hx => by have := HG.out.t x hx; omega)
  have HD8 : Hd (∀ x ∈ l, ∀ c ∈ x.d, c < 256) := hid (fun x hx => (HG.out.d x hx).2)
  have HDL : Hd (∀ x ∈ l, x.d.length ≤ 140737488351232) := hid (fun x hx => by have := (HG.out.d x hx).1; omega)
  go_wp2_with fail
  refine (Around_any ta 60 _ H4.out.1 H4.out.2 (by omega) (by omega)).mono ?_
  rintro e wx ⟨rfl, rfl⟩
  have b_n := around_b ta (show (1 : Int) ≤ 60 by omega)
  generalize around ta 60 = n at *
  go_wp2_with fail
  refine (Around_any tb 1100 _ H5.out.1 H5.out.2 (by omega) (by omega)).mono ?_
  rintro e wx ⟨rfl, rfl⟩
  have b_dm := around_b tb (show (1 : Int) ≤ 1100 by omega)
  generalize around tb 1100 = dm at *
  obtain ⟨m, hm⟩ : ∃ m, n + dm = m := ⟨_, rfl⟩
  have hnm : n ≤ m ∧ m ≤ 1160 := by omega
  obtain ⟨k1, hk1⟩ : ∃ k1, stepK l n = k1 := ⟨_, rfl⟩
  obtain ⟨k2, hk2⟩ : ∃ k2, stepK (l.drop k1) m = k2 := ⟨_, rfl⟩
  have hk3 : stepK l m = k1 + k2 := by rw [step_two hnm.1, hk1, hk2]
  obtain ⟨d1, hd1⟩ : ∃ d1, l.drop k1 = d1 := ⟨_, rfl⟩
  obtain ⟨o1, ho1⟩ : ∃ o1, l.take k1 = o1 := ⟨_, rfl⟩
  obtain ⟨d3, hd3⟩ : ∃ d3, l.drop (k1 + k2) = d3 := ⟨_, rfl⟩
  obtain ⟨o3, ho3⟩ : ∃ o3, l.take (k1 + k2) = o3 := ⟨_, rfl⟩
  obtain ⟨o2, ho2⟩ : ∃ o2, d1.take k2 = o2 := ⟨_, rfl⟩
  have hd2 : d1.drop k2 = d3 := by rw [← hd1, ← hd3, List.drop_drop]
  have ho4 : o1 ++ o2 = o3 := by rw [← ho1, ← ho2, ← ho3, ← hd1, List.take_add]
  have HK1 := hid hk1; have HK2 : Hd (stepK d1 m = k2) := hid (by rw [← hd1]; exact hk2); have HK3 := hid hk3; have HD1 := hid hd1; have HO1 := hid ho1; have HD3 := hid hd3; have HO3 := hid ho3; have HO2 := hid ho2; have HD2 := hid hd2; have HO4 := hid ho4; have HM := hid hm
  have L1' : d1.length ≤ 24 := by rw [← hd1, List.length_drop]; omega
  have L2' : o1.length ≤ 24 := by rw [← ho1, List.length_take]; omega
  have L3' : d3.length ≤ 24 := by rw [← hd3, List.length_drop]; omega
  have L4' : o3.length ≤ 24 := by rw [← ho3, List.length_take]; omega
  have L5' : o2.length ≤ 24 := by rw [← ho2, List.length_take]; omega
  have M1 : Hd (∀ x ∈ d1, x ∈ l) := hid (fun x hx => by rw [← hd1] at hx; exact List.mem_of_mem_drop hx)
  have M3 : Hd (∀ x ∈ d3, x ∈ l) := hid (fun x hx => by rw [← hd3] at hx; exact List.mem_of_mem_drop hx)
  have M4 : Hd (∀ x ∈ o3, x ∈ l) := hid (fun x hx => by rw [← ho3] at hx; exact List.mem_of_mem_take hx)
  have L6' : o1.length + o2.length = o3.length := by rw [← ho4, List.length_append]
  clear hk1 hk2 hk3 hd1 ho1 hd3 ho3 ho2 hd2 ho4
  have HDL1 : Hd (∀ x ∈ d1, x.d.length ≤ 140737488351232) := hid (fun x hx => HDL.out x (M1.out x hx))
  go_upto_region 4 with fail
  skip
  have o_BK_0 : W4.cell? ⟨W3.heap.size, 0, none⟩ = some (.slice a1 l.length c1) := blk_cell BK.out 0
  have o_BK_1 : W4.cell? ⟨W3.heap.size, 1, none⟩ = some (.int .i64 cn) := blk_cell BK.out 1
  go_wp2_with fail
  refine (Step_any _ l cn n _ (F1.out.mono (fun b h _ => h)) (by omega) (HDL.out)).mono ?_
  rintro e W5 ⟨sa1, sn1, sc1, so1, sm1, sp1, rfl, hsn, hsm, hsf, hsr, hk⟩
  rw [HK1.out, HD1.out] at hsn hsf
  rw [HK1.out, HO1.out] at hsm hsr
  subst hsn hsm
  have SF1 := hid hsf; have SA1 := hid hsr; clear hsf hsr
  clear o_BK_0 o_BK_1
  have F1' : Hd (Fls (fun b => W2.heap.size ≤ b) W5 (.slice a1 l.length c1) l) := hid (F1.out.keep hk (fun _ _ _ h => h))
  have BK' : Hd (Blk W5 W3.heap.size #[.slice a1 l.length c1, .int .i64 cn] 28) := hid (blk_keep BK.out hk (fun h => h))
  clear F1 BK
  have F1 := F1'
  clear F1'
  have BK := BK'
  clear BK'
  have HK' : Hd (Keeps (fun _ => False) w W5) := hid (HK.out.trans hk)
  clear HK
  have HK := HK'
  clear HK'
  have z_W5 := hk.size
  clear hk
  go_upto_region 5 with fail
  generalize hW : World.alloc W5 _ = W6
  have KS : Hd (Keeps (fun _ => False) W5 W6) := hid (by rw [← hW]; exact (Keeps.alloc (Keeps.refl (fun _ => False) W5) _))
  have F1' : Hd (Fls (fun b => W2.heap.size ≤ b) W6 (.slice a1 l.length c1) l) := hid (F1.out.keep KS.out (fun _ _ _ h => h))
  have BK' : Hd (Blk W6 W3.heap.size #[.slice a1 l.length c1, .int .i64 cn] 28) := hid (by rw [← hW]; exact (blk_alloc BK.out _))
  have SF1' : Hd (Fls (fun b => W4.heap.size ≤ b) W6 (.slice sa1 d1.length sc1) d1) := hid (SF1.out.keep KS.out (fun _ _ _ h => h))
  have SA1' : Hd (Ars (fun b => W4.heap.size ≤ b) W6 (.slice so1 o1.length sp1) o1) := hid (SA1.out.keep KS.out (fun _ _ _ h => h))
  have BX : Hd (Blk W6 W5.heap.size #[.slice sa1 d1.length sc1, .int .i64 cn] 28) := hid (by rw [← hW]; exact (blk_new _ _ _))
  clear F1 BK SF1 SA1
  have F1 := F1'
  clear F1'
  have BK := BK'
  clear BK'
  have SF1 := SF1'
  clear SF1'
  have SA1 := SA1'
  clear SA1'
  have HK' : Hd (Keeps (fun _ => False) w W6) := hid (HK.out.trans KS.out)
  clear HK
  have HK := HK'
  clear HK'
  have z_W6 : W5.heap.size + 1 ≤ W6.heap.size := by rw [← hW]; simp
  clear hW KS
  have o_BX_0 : W6.cell? ⟨W5.heap.size, 0, none⟩ = some (.slice sa1 d1.length sc1) := blk_cell BX.out 0
  have o_BX_1 : W6.cell? ⟨W5.heap.size, 1, none⟩ = some (.int .i64 cn) := blk_cell BX.out 1
  go_wp2_with fail
  refine (Step_any _ d1 cn m _ (SF1.out.mono (fun b h _ => h)) (by omega) (HDL1.out)).mono ?_
  rintro e W7 ⟨sa2, sn2, sc2, so2, sm2, sp2, rfl, hsn, hsm, hsf, hsr, hk⟩
  rw [HK2.out, HD2.out] at hsn hsf
  rw [HK2.out, HO2.out] at hsm hsr
  subst hsn hsm
  have SF2 := hid hsf; have SA2 := hid hsr; clear hsf hsr
  clear o_BX_0 o_BX_1
  have F1' : Hd (Fls (fun b => W2.heap.size ≤ b) W7 (.slice a1 l.length c1) l) := hid (F1.out.keep hk (fun _ _ _ h => h))
  have BK' : Hd (Blk W7 W3.heap.size #[.slice a1 l.length c1, .int .i64 cn] 28) := hid (blk_keep BK.out hk (fun h => h))
  have SF1' : Hd (Fls (fun b => W4.heap.size ≤ b) W7 (.slice sa1 d1.length sc1) d1) := hid (SF1.out.keep hk (fun _ _ _ h => h))
  have SA1' : Hd (Ars (fun b => W4.heap.size ≤ b) W7 (.slice so1 o1.length sp1) o1) := hid (SA1.out.keep hk (fun _ _ _ h => h))
  have BX' : Hd (Blk W7 W5.heap.size #[.slice sa1 d1.length sc1, .int .i64 cn] 28) := hid (blk_keep BX.out hk (fun h => h))
  clear F1 BK SF1 SA1 BX
  have F1 := F1'
  clear F1'
  have BK := BK'
  clear BK'
  have SF1 := SF1'
  clear SF1'
  have SA1 := SA1'
  clear SA1'
  have BX := BX'
  clear BX'
  have HK' : Hd (Keeps (fun _ => False) w W7) := hid (HK.out.trans hk)
  clear HK
  have HK := HK'
  clear HK'
  have z_W7 := hk.size
  clear hk
  go_upto_region 6 with fail
  generalize hW : World.alloc W7 _ = W8
  have KS : Hd (Keeps (fun _ => False) W7 W8) := hid (by rw [← hW]; exact (Keeps.alloc (Keeps.refl (fun _ => False) W7) _))
  have F1' : Hd (Fls (fun b => W2.heap.size ≤ b) W8 (.slice a1 l.length c1) l) := hid (F1.out.keep KS.out (fun _ _ _ h => h))
  have BK' : Hd (Blk W8 W3.heap.size #[.slice a1 l.length c1, .int .i64 cn] 28) := hid (by rw [← hW]; exact (blk_alloc BK.out _))
  have SF1' : Hd (Fls (fun b => W4.heap.size ≤ b) W8 (.slice sa1 d1.length sc1) d1) := hid (SF1.out.keep KS.out (fun _ _ _ h => h))
  have SA1' : Hd (Ars (fun b => W4.heap.size ≤ b) W8 (.slice so1 o1.length sp1) o1) := hid (SA1.out.keep KS.out (fun _ _ _ h => h))
  have BX' : Hd (Blk W8 W5.heap.size #[.slice sa1 d1.length sc1, .int .i64 cn] 28) := hid (by rw [← hW]; exact (blk_alloc BX.out _))
  have SF2' : Hd (Fls (fun b => W6.heap.size ≤ b) W8 (.slice sa2 d3.length sc2) d3) := hid (SF2.out.keep KS.out (fun _ _ _ h => h))
  have SA2' : Hd (Ars (fun b => W6.heap.size ≤ b) W8 (.slice so2 o2.length sp2) o2) := hid (SA2.out.keep KS.out (fun _ _ _ h => h))
  have BY : Hd (Blk W8 W7.heap.size #[.slice sa2 d3.length sc2, .int .i64 cn] 28) := hid (by rw [← hW]; exact (blk_new _ _ _))
  clear F1 BK SF1 SA1 BX SF2 SA2
  have F1 := F1'
  clear F1'
  have BK := BK'
  clear BK'
  have SF1 := SF1'
  clear SF1'
  have SA1 := SA1'
  clear SA1'
  have BX := BX'
  clear BX'
  have SF2 := SF2'
  clear SF2'
  have SA2 := SA2'
  clear SA2'
  have HK' : Hd (Keeps (fun _ => False) w W8) := hid (HK.out.trans KS.out)
  clear HK
  have HK := HK'
  clear HK'
  have z_W8 : W7.heap.size + 1 ≤ W8.heap.size := by rw [← hW]; simp
  clear hW KS
  have o_BK_0 : W8.cell? ⟨W3.heap.size, 0, none⟩ = some (.slice a1 l.length c1) := blk_cell BK.out 0
  have o_BK_1 : W8.cell? ⟨W3.heap.size, 1, none⟩ = some (.int .i64 cn) := blk_cell BK.out 1
  go_wp2_with fail
  refine (Step_any _ l cn m _ (F1.out.mono (fun b h _ => h)) (by omega) (HDL.out)).mono ?_
  rintro e W9 ⟨sa3, sn3, sc3, so3, sm3, sp3, rfl, hsn, hsm, hsf, hsr, hk⟩
  rw [HK3.out, HD3.out] at hsn hsf
  rw [HK3.out, HO3.out] at hsm hsr
  subst hsn hsm
  have SF3 := hid hsf; have SA3 := hid hsr; clear hsf hsr
  clear o_BK_0 o_BK_1
  have F1' : Hd (Fls (fun b => W2.heap.size ≤ b) W9 (.slice a1 l.length c1) l) := hid (F1.out.keep hk (fun _ _ _ h => h))
  have BK' : Hd (Blk W9 W3.heap.size #[.slice a1 l.length c1, .int .i64 cn] 28) := hid (blk_keep BK.out hk (fun h => h))
  have SF1' : Hd (Fls (fun b => W4.heap.size ≤ b) W9 (.slice sa1 d1.length sc1) d1) := hid (SF1.out.keep hk (fun _ _ _ h => h))
  have SA1' : Hd (Ars (fun b => W4.heap.size ≤ b) W9 (.slice so1 o1.length sp1) o1) := hid (SA1.out.keep hk (fun _ _ _ h => h))
  have BX' : Hd (Blk W9 W5.heap.size #[.slice sa1 d1.length sc1, .int .i64 cn] 28) := hid (blk_keep BX.out hk (fun h => h))
  have SF2' : Hd (Fls (fun b => W6.heap.size ≤ b) W9 (.slice sa2 d3.length sc2) d3) := hid (SF2.out.keep hk (fun _ _ _ h => h))
  have SA2' : Hd (Ars (fun b => W6.heap.size ≤ b) W9 (.slice so2 o2.length sp2) o2) := hid (SA2.out.keep hk (fun _ _ _ h => h))
  have BY' : Hd (Blk W9 W7.heap.size #[.slice sa2 d3.length sc2, .int .i64 cn] 28) := hid (blk_keep BY.out hk (fun h => h))
  clear F1 BK SF1 SA1 BX SF2 SA2 BY
  have F1 := F1'
  clear F1'
  have BK := BK'
  clear BK'
  have SF1 := SF1'
  clear SF1'
  have SA1 := SA1'
  clear SA1'
  have BX := BX'
  clear BX'
  have SF2 := SF2'
  clear SF2'
  have SA2 := SA2'
  clear SA2'
  have BY := BY'
  clear BY'
  have HK' : Hd (Keeps (fun _ => False) w W9) := hid (HK.out.trans hk)
  clear HK
  have HK := HK'
  clear HK'
  have z_W9 := hk.size
  clear hk
  go_upto_region 7 with fail
  generalize hW : World.alloc W9 _ = W10
  have KS : Hd (Keeps (fun _ => False) W9 W10) := hid (by rw [← hW]; exact (Keeps.alloc (Keeps.refl (fun _ => False) W9) _))
  have F1' : Hd (Fls (fun b => W2.heap.size ≤ b) W10 (.slice a1 l.length c1) l) := hid (F1.out.keep KS.out (fun _ _ _ h => h))
  have BK' : Hd (Blk W10 W3.heap.size #[.slice a1 l.length c1, .int .i64 cn] 28) := hid (by rw [← hW]; exact (blk_alloc BK.out _))
  have SF1' : Hd (Fls (fun b => W4.heap.size ≤ b) W10 (.slice sa1 d1.length sc1) d1) := hid (SF1.out.keep KS.out (fun _ _ _ h => h))
  have SA1' : Hd (Ars (fun b => W4.heap.size ≤ b) W10 (.slice so1 o1.length sp1) o1) := hid (SA1.out.keep KS.out (fun _ _ _ h => h))
  have BX' : Hd (Blk W10 W5.heap.size #[.slice sa1 d1.length sc1, .int .i64 cn] 28) := hid (by rw [← hW]; exact (blk_alloc BX.out _))
  have SF2' : Hd (Fls (fun b => W6.heap.size ≤ b) W10 (.slice sa2 d3.length sc2) d3) := hid (SF2.out.keep KS.out (fun _ _ _ h => h))
  have SA2' : Hd (Ars (fun b => W6.heap.size ≤ b) W10 (.slice so2 o2.length sp2) o2) := hid (SA2.out.keep KS.out (fun _ _ _ h => h))
  have BY' : Hd (Blk W10 W7.heap.size #[.slice sa2 d3.length sc2, .int .i64 cn] 28) := hid (by rw [← hW]; exact (blk_alloc BY.out _))
  have SF3' : Hd (Fls (fun b => W8.heap.size ≤ b) W10 (.slice sa3 d3.length sc3) d3) := hid (SF3.out.keep KS.out (fun _ _ _ h => h))
  have SA3' : Hd (Ars (fun b => W8.heap.size ≤ b) W10 (.slice so3 o3.length sp3) o3) := hid (SA3.out.keep KS.out (fun _ _ _ h => h))
  have BZ : Hd (Blk W10 W9.heap.size #[.slice sa3 d3.length sc3, .int .i64 cn] 28) := hid (by rw [← hW]; exact (blk_new _ _ _))
  clear F1 BK SF1 SA1 BX SF2 SA2 BY SF3 SA3
  have F1 := F1'
  clear F1'
  have BK := BK'
  clear BK'
  have SF1 := SF1'
  clear SF1'
  have SA1 := SA1'
  clear SA1'
  have BX := BX'
  clear BX'
  have SF2 := SF2'
  clear SF2'
  have SA2 := SA2'
  clear SA2'
  have BY := BY'
  clear BY'
  have SF3 := SF3'
  clear SF3'
  have SA3 := SA3'
  clear SA3'
  have HK' : Hd (Keeps (fun _ => False) w W10) := hid (HK.out.trans KS.out)
  clear HK
  have HK := HK'
  clear HK'
  have z_W10 : W9.heap.size + 1 ≤ W10.heap.size := by rw [← hW]; simp
  clear hW KS
  obtain ⟨q, hq⟩ : ∃ q, quietL l = q := ⟨_, rfl⟩
  have hq0 : 0 ≤ q := by rw [← hq, ← quiet_eq HG.out.srt (fun x hx => (HG.out.t x hx).1)]; exact refQuiet_nn l
  have hq1 : q ≤ 1000000000000001 := by rw [← hq]; unfold quietL; split; rename_i x hx; have := HT.out x (List.mem_of_getLast? hx); omega; omega
  have HQL : Hd (∀ x ∈ l, x.t ≤ q - 1) := hid (by rw [← hq]; exact quiet_last HG.out.srt)
  have HQ := hid hq; clear hq
  have u1 : IntKind.i64.wrap (q - 1) = q - 1 := IntWalk.i64_in _ (by omega)
  have HALL : Hd (∀ T, q - 1 ≤ T → stepK l T = l.length) := hid (fun T hT => stepK_all (fun x hx => by have := HQL.out x hx; omega))
  go_upto_region 7 with fail
  go_cut [24, 25] from 64 to 71 (fun u24 u25 wx => CutF W10 28 (StepP [] l cn W10 u25) u24 wx)
  case first =>
    have KC : Hd (Keeps (fun _ => False) W10 W10) := hid (Keeps.refl _ _)
    have HSS : Hd (∀ w', Keeps (fun _ => False) W10 w' → (w'.cell? ⟨W3.heap.size, 0, none⟩ = some (.slice a1 l.length c1) ∧ w'.cell? ⟨W3.heap.size, 1, none⟩ = some (.int .i64 cn))) := hid (fun w' hk => ⟨blk_cell (blk_keep BK.out hk (fun h => h)) 0, blk_cell (blk_keep BK.out hk (fun h => h)) 1⟩)
    rcases (show q ≤ 1 ∨ 2 ≤ q by omega) with hqq | hqq
    · have g1 : ¬ 0 < q - 1 := by omega
      have g2 : ¬ 1 < q := by omega
      have g3 : decide (0 < q - 1) = false := by simp; omega
      go_region_held (fun w' => w'.cell? ⟨W3.heap.size, 0, none⟩ = some (.slice a1 l.length c1) ∧ w'.cell? ⟨W3.heap.size, 1, none⟩ = some (.int .i64 cn)) (exact HSS.out _ (by repeat (first | (with_reducible exact KC.out) | (with_reducible exact Keeps.refl _ _) | (with_reducible apply Keeps.drewN) | (with_reducible apply Keeps.drew) | (with_reducible apply Keeps.alloc) | (refine Keeps.setCell ?_ (.inr (by first | exact Nat.le_refl _ | (simp; done) | (simp; omega) | omega)) _))))
        (first
        | (go_at_call 15; (refine (Quiet_any _ _ l cn _ (F1.out.keep (by repeat (first | (with_reducible exact KC.out) | (with_reducible exact Keeps.refl _ _) | (with_reducible apply Keeps.drewN) | (with_reducible apply Keeps.drew) | (with_reducible apply Keeps.alloc))) (fun _ _ _ h => h)) (by omega) HT.out).mono ?_); rw [HQ.out]; rintro e wy0 ⟨rfl, hk⟩; have KC2 : Hd (Keeps (fun _ => False) W10 wy0) := hid (Keeps.trans (S := fun _ => False) (by repeat (first | (with_reducible exact KC.out) | (with_reducible exact Keeps.refl _ _) | (with_reducible apply Keeps.drewN) | (with_reducible apply Keeps.drew) | (with_reducible apply Keeps.alloc))) hk); have zc := KC.out.size; (try (replace LNB := hid (Keeps.trans (S := fun _ => False) (by repeat (first | (with_reducible exact LNB.out) | (with_reducible exact Keeps.refl _ _) | (with_reducible apply Keeps.drewN) | (with_reducible apply Keeps.drew) | (with_reducible apply Keeps.alloc))) hk))); (first | (have HNBX := HNB; clear HNBX) | (have HNB : Hd (∀ V, Keeps (fun _ => False) wy0 V → Blk V W10.heap.size #[.slice none 0 0, .int .i64 0] 28) := hid (fun V hv => blk_keep (blk_keep (by (repeat (first | (with_reducible apply blk_drewN) | (with_reducible apply blk_drew) | (with_reducible refine blk_new' _ _ _ _ ?_) | (with_reducible apply blk_alloc))); (first | (with_reducible rfl) | (simp only [World.size_alloc, World.size_drew]; done) | (simp; done))) hk (fun h => h)) hv (fun h => h)); have LNB : Hd (Keeps (fun _ => False) wy0 wy0) := hid (Keeps.refl _ _)) | (have HNB : Hd (∀ V, Keeps (fun _ => False) wy0 V → Blk V (W10.heap.size + 1) #[.slice none 0 0, .int .i64 0] 28) := hid (fun V hv => blk_keep (blk_keep (by (repeat (first | (with_reducible apply blk_drewN) | (with_reducible apply blk_drew) | (with_reducible refine blk_new' _ _ _ _ ?_) | (with_reducible apply blk_alloc))); (first | (with_reducible rfl) | (simp only [World.size_alloc, World.size_drew]; done) | (simp; done))) hk (fun h => h)) hv (fun h => h)); have LNB : Hd (Keeps (fun _ => False) wy0 wy0) := hid (Keeps.refl _ _)) | skip); replace KC := KC2; clear KC2; (try (have nF0 := blk_cell (HNB.out _ LNB.out) 0; have nG0 := blk_free (HNB.out _ LNB.out) 0; have nF1 := blk_cell (HNB.out _ LNB.out) 1; have nG1 := blk_free (HNB.out _ LNB.out) 1)); have zk := hk.size; (try simp at zk); have zd := KC.out.size; replace hk := hid hk)
        | (go_at_call 18; (refine (Step_any _ l cn _ _ ((F1.out.keep (by repeat (first | (with_reducible exact KC.out) | (with_reducible exact Keeps.refl _ _) | (with_reducible apply Keeps.drewN) | (with_reducible apply Keeps.drew) | (with_reducible apply Keeps.alloc))) (fun _ _ _ h => h)).mono (fun b h _ => h)) (by omega) HDL.out).mono ?_); rintro e wy1 ⟨ra, rn, rc, rao, rno, rco, rfl, hrn, hrno, hrf, hra, hk⟩; have KC2 : Hd (Keeps (fun _ => False) W10 wy1) := hid (Keeps.trans (S := fun _ => False) (by repeat (first | (with_reducible exact KC.out) | (with_reducible exact Keeps.refl _ _) | (with_reducible apply Keeps.drewN) | (with_reducible apply Keeps.drew) | (with_reducible apply Keeps.alloc))) hk); have zc := KC.out.size; rw [HALL.out _ (by omega), List.drop_length] at hrn hrf; rw [HALL.out _ (by omega), List.take_length] at hrno hra; subst hrn hrno; have RF := hid hrf; have RA := hid hra; clear hrf hra; (try (replace LNB := hid (Keeps.trans (S := fun _ => False) (by repeat (first | (with_reducible exact LNB.out) | (with_reducible exact Keeps.refl _ _) | (with_reducible apply Keeps.drewN) | (with_reducible apply Keeps.drew) | (with_reducible apply Keeps.alloc))) hk))); (first | (have HNBX := HNB; clear HNBX) | (have HNB : Hd (∀ V, Keeps (fun _ => False) wy1 V → Blk V W10.heap.size #[.slice none 0 0, .int .i64 0] 28) := hid (fun V hv => blk_keep (blk_keep (by (repeat (first | (with_reducible apply blk_drewN) | (with_reducible apply blk_drew) | (with_reducible refine blk_new' _ _ _ _ ?_) | (with_reducible apply blk_alloc))); (first | (with_reducible rfl) | (simp only [World.size_alloc, World.size_drew]; done) | (simp; done))) hk (fun h => h)) hv (fun h => h)); have LNB : Hd (Keeps (fun _ => False) wy1 wy1) := hid (Keeps.refl _ _)) | (have HNB : Hd (∀ V, Keeps (fun _ => False) wy1 V → Blk V (W10.heap.size + 1) #[.slice none 0 0, .int .i64 0] 28) := hid (fun V hv => blk_keep (blk_keep (by (repeat (first | (with_reducible apply blk_drewN) | (with_reducible apply blk_drew) | (with_reducible refine blk_new' _ _ _ _ ?_) | (with_reducible apply blk_alloc))); (first | (with_reducible rfl) | (simp only [World.size_alloc, World.size_drew]; done) | (simp; done))) hk (fun h => h)) hv (fun h => h)); have LNB : Hd (Keeps (fun _ => False) wy1 wy1) := hid (Keeps.refl _ _)) | (have HNB : Hd (∀ V, Keeps (fun _ => False) wy1 V → Blk V wy0.heap.size #[.slice none 0 0, .int .i64 0] 28) := hid (fun V hv => blk_keep (blk_keep (by (repeat (first | (with_reducible apply blk_drewN) | (with_reducible apply blk_drew) | (with_reducible refine blk_new' _ _ _ _ ?_) | (with_reducible apply blk_alloc))); (first | (with_reducible rfl) | (simp only [World.size_alloc, World.size_drew]; done) | (simp; done))) hk (fun h => h)) hv (fun h => h)); have LNB : Hd (Keeps (fun _ => False) wy1 wy1) := hid (Keeps.refl _ _)) | (have HNB : Hd (∀ V, Keeps (fun _ => False) wy1 V → Blk V (wy0.heap.size + 1) #[.slice none 0 0, .int .i64 0] 28) := hid (fun V hv => blk_keep (blk_keep (by (repeat (first | (with_reducible apply blk_drewN) | (with_reducible apply blk_drew) | (with_reducible refine blk_new' _ _ _ _ ?_) | (with_reducible apply blk_alloc))); (first | (with_reducible rfl) | (simp only [World.size_alloc, World.size_drew]; done) | (simp; done))) hk (fun h => h)) hv (fun h => h)); have LNB : Hd (Keeps (fun _ => False) wy1 wy1) := hid (Keeps.refl _ _)) | skip); replace KC := KC2; clear KC2; (try (have nF0 := blk_cell (HNB.out _ LNB.out) 0; have nG0 := blk_free (HNB.out _ LNB.out) 0; have nF1 := blk_cell (HNB.out _ LNB.out) 1; have nG1 := blk_free (HNB.out _ LNB.out) 1)); have zk := hk.size; (try simp at zk); have zd := KC.out.size; replace hk := hid hk))
      all_goals
        go_wp2_with fail
        go_meet
        first | ((with_reducible refine cutF_new KC.out ?_); exact (fun w' hk => ⟨ra, rc, rao, rco, rfl, rfl, (RF.out.mono (K' := fun b => b ≠ wy1.heap.size) (fun b h1 _ => by omega)).keep hk (fun _ _ _ h => h), (RA.out.mono (K' := fun b => b ≠ wy1.heap.size) (fun b h1 _ => by omega)).keep hk (fun _ _ _ h => h)⟩)) | ((with_reducible refine cutF_old2 KC.out (by first | exact Nat.le_refl _ | omega | (simp; done) | (simp; omega)) (HNB.out _ LNB.out) ?_); (first | exact (fun w' hk => ⟨ra, rc, rao, rco, rfl, rfl, (RF.out.mono (K' := fun b => b ≠ W10.heap.size) (fun b _ h => by (try simp at h); omega)).keep hk (fun b _ h1 h2 => h1 h2), (RA.out.mono (K' := fun b => b ≠ W10.heap.size) (fun b _ h => by (try simp at h); omega)).keep hk (fun b _ h1 h2 => h1 h2)⟩) | exact (fun w' hk => ⟨ra, rc, rao, rco, rfl, rfl, (RF.out.mono (K' := fun b => b ≠ wy0.heap.size) (fun b _ h => by (try simp at h); omega)).keep hk (fun b _ h1 h2 => h1 h2), (RA.out.mono (K' := fun b => b ≠ wy0.heap.size) (fun b _ h => by (try simp at h); omega)).keep hk (fun b _ h1 h2 => h1 h2)⟩))) | ((with_reducible refine cutF_drew (fun _ _ _ h => h) (cutF_new KC.out ?_)); exact (fun w' hk => ⟨ra, rc, rao, rco, rfl, rfl, (RF.out.mono (K' := fun b => b ≠ wy1.heap.size) (fun b h1 _ => by omega)).keep hk (fun _ _ _ h => h), (RA.out.mono (K' := fun b => b ≠ wy1.heap.size) (fun b h1 _ => by omega)).keep hk (fun _ _ _ h => h)⟩)) | ((with_reducible refine cutF_drew (fun _ _ _ h => h) (cutF_old2 KC.out (by first | exact Nat.le_refl _ | omega | (simp; done) | (simp; omega)) (HNB.out _ LNB.out) ?_)); (first | exact (fun w' hk => ⟨ra, rc, rao, rco, rfl, rfl, (RF.out.mono (K' := fun b => b ≠ W10.heap.size) (fun b _ h => by (try simp at h); omega)).keep hk (fun b _ h1 h2 => h1 h2), (RA.out.mono (K' := fun b => b ≠ W10.heap.size) (fun b _ h => by (try simp at h); omega)).keep hk (fun b _ h1 h2 => h1 h2)⟩) | exact (fun w' hk => ⟨ra, rc, rao, rco, rfl, rfl, (RF.out.mono (K' := fun b => b ≠ wy0.heap.size) (fun b _ h => by (try simp at h); omega)).keep hk (fun b _ h1 h2 => h1 h2), (RA.out.mono (K' := fun b => b ≠ wy0.heap.size) (fun b _ h => by (try simp at h); omega)).keep hk (fun b _ h1 h2 => h1 h2)⟩)))
    · have g1 : 0 < q - 1 := by omega
      have g2 : 1 < q := by omega
      have g3 : decide (0 < q - 1) = true := by simp; omega
      go_region_held (fun w' => w'.cell? ⟨W3.heap.size, 0, none⟩ = some (.slice a1 l.length c1) ∧ w'.cell? ⟨W3.heap.size, 1, none⟩ = some (.int .i64 cn)) (exact HSS.out _ (by repeat (first | (with_reducible exact KC.out) | (with_reducible exact Keeps.refl _ _) | (with_reducible apply Keeps.drewN) | (with_reducible apply Keeps.drew) | (with_reducible apply Keeps.alloc) | (refine Keeps.setCell ?_ (.inr (by first | exact Nat.le_refl _ | (simp; done) | (simp; omega) | omega)) _))))
        (first
        | (go_at_call 15; (refine (Quiet_any _ _ l cn _ (F1.out.keep (by repeat (first | (with_reducible exact KC.out) | (with_reducible exact Keeps.refl _ _) | (with_reducible apply Keeps.drewN) | (with_reducible apply Keeps.drew) | (with_reducible apply Keeps.alloc))) (fun _ _ _ h => h)) (by omega) HT.out).mono ?_); rw [HQ.out]; rintro e wy0 ⟨rfl, hk⟩; have KC2 : Hd (Keeps (fun _ => False) W10 wy0) := hid (Keeps.trans (S := fun _ => False) (by repeat (first | (with_reducible exact KC.out) | (with_reducible exact Keeps.refl _ _) | (with_reducible apply Keeps.drewN) | (with_reducible apply Keeps.drew) | (with_reducible apply Keeps.alloc))) hk); have zc := KC.out.size; (try (replace LNB := hid (Keeps.trans (S := fun _ => False) (by repeat (first | (with_reducible exact LNB.out) | (with_reducible exact Keeps.refl _ _) | (with_reducible apply Keeps.drewN) | (with_reducible apply Keeps.drew) | (with_reducible apply Keeps.alloc))) hk))); (first | (have HNBX := HNB; clear HNBX) | (have HNB : Hd (∀ V, Keeps (fun _ => False) wy0 V → Blk V W10.heap.size #[.slice none 0 0, .int .i64 0] 28) := hid (fun V hv => blk_keep (blk_keep (by (repeat (first | (with_reducible apply blk_drewN) | (with_reducible apply blk_drew) | (with_reducible refine blk_new' _ _ _ _ ?_) | (with_reducible apply blk_alloc))); (first | (with_reducible rfl) | (simp only [World.size_alloc, World.size_drew]; done) | (simp; done))) hk (fun h => h)) hv (fun h => h)); have LNB : Hd (Keeps (fun _ => False) wy0 wy0) := hid (Keeps.refl _ _)) | (have HNB : Hd (∀ V, Keeps (fun _ => False) wy0 V → Blk V (W10.heap.size + 1) #[.slice none 0 0, .int .i64 0] 28) := hid (fun V hv => blk_keep (blk_keep (by (repeat (first | (with_reducible apply blk_drewN) | (with_reducible apply blk_drew) | (with_reducible refine blk_new' _ _ _ _ ?_) | (with_reducible apply blk_alloc))); (first | (with_reducible rfl) | (simp only [World.size_alloc, World.size_drew]; done) | (simp; done))) hk (fun h => h)) hv (fun h => h)); have LNB : Hd (Keeps (fun _ => False) wy0 wy0) := hid (Keeps.refl _ _)) | skip); replace KC := KC2; clear KC2; (try (have nF0 := blk_cell (HNB.out _ LNB.out) 0; have nG0 := blk_free (HNB.out _ LNB.out) 0; have nF1 := blk_cell (HNB.out _ LNB.out) 1; have nG1 := blk_free (HNB.out _ LNB.out) 1)); have zk := hk.size; (try simp at zk); have zd := KC.out.size; replace hk := hid hk)
        | (go_at_call 18; (refine (Step_any _ l cn _ _ ((F1.out.keep (by repeat (first | (with_reducible exact KC.out) | (with_reducible exact Keeps.refl _ _) | (with_reducible apply Keeps.drewN) | (with_reducible apply Keeps.drew) | (with_reducible apply Keeps.alloc))) (fun _ _ _ h => h)).mono (fun b h _ => h)) (by omega) HDL.out).mono ?_); rintro e wy1 ⟨ra, rn, rc, rao, rno, rco, rfl, hrn, hrno, hrf, hra, hk⟩; have KC2 : Hd (Keeps (fun _ => False) W10 wy1) := hid (Keeps.trans (S := fun _ => False) (by repeat (first | (with_reducible exact KC.out) | (with_reducible exact Keeps.refl _ _) | (with_reducible apply Keeps.drewN) | (with_reducible apply Keeps.drew) | (with_reducible apply Keeps.alloc))) hk); have zc := KC.out.size; rw [HALL.out _ (by omega), List.drop_length] at hrn hrf; rw [HALL.out _ (by omega), List.take_length] at hrno hra; subst hrn hrno; have RF := hid hrf; have RA := hid hra; clear hrf hra; (try (replace LNB := hid (Keeps.trans (S := fun _ => False) (by repeat (first | (with_reducible exact LNB.out) | (with_reducible exact Keeps.refl _ _) | (with_reducible apply Keeps.drewN) | (with_reducible apply Keeps.drew) | (with_reducible apply Keeps.alloc))) hk))); (first | (have HNBX := HNB; clear HNBX) | (have HNB : Hd (∀ V, Keeps (fun _ => False) wy1 V → Blk V W10.heap.size #[.slice none 0 0, .int .i64 0] 28) := hid (fun V hv => blk_keep (blk_keep (by (repeat (first | (with_reducible apply blk_drewN) | (with_reducible apply blk_drew) | (with_reducible refine blk_new' _ _ _ _ ?_) | (with_reducible apply blk_alloc))); (first | (with_reducible rfl) | (simp only [World.size_alloc, World.size_drew]; done) | (simp; done))) hk (fun h => h)) hv (fun h => h)); have LNB : Hd (Keeps (fun _ => False) wy1 wy1) := hid (Keeps.refl _ _)) | (have HNB : Hd (∀ V, Keeps (fun _ => False) wy1 V → Blk V (W10.heap.size + 1) #[.slice none 0 0, .int .i64 0] 28) := hid (fun V hv => blk_keep (blk_keep (by (repeat (first | (with_reducible apply blk_drewN) | (with_reducible apply blk_drew) | (with_reducible refine blk_new' _ _ _ _ ?_) | (with_reducible apply blk_alloc))); (first | (with_reducible rfl) | (simp only [World.size_alloc, World.size_drew]; done) | (simp; done))) hk (fun h => h)) hv (fun h => h)); have LNB : Hd (Keeps (fun _ => False) wy1 wy1) := hid (Keeps.refl _ _)) | (have HNB : Hd (∀ V, Keeps (fun _ => False) wy1 V → Blk V wy0.heap.size #[.slice none 0 0, .int .i64 0] 28) := hid (fun V hv => blk_keep (blk_keep (by (repeat (first | (with_reducible apply blk_drewN) | (with_reducible apply blk_drew) | (with_reducible refine blk_new' _ _ _ _ ?_) | (with_reducible apply blk_alloc))); (first | (with_reducible rfl) | (simp only [World.size_alloc, World.size_drew]; done) | (simp; done))) hk (fun h => h)) hv (fun h => h)); have LNB : Hd (Keeps (fun _ => False) wy1 wy1) := hid (Keeps.refl _ _)) | (have HNB : Hd (∀ V, Keeps (fun _ => False) wy1 V → Blk V (wy0.heap.size + 1) #[.slice none 0 0, .int .i64 0] 28) := hid (fun V hv => blk_keep (blk_keep (by (repeat (first | (with_reducible apply blk_drewN) | (with_reducible apply blk_drew) | (with_reducible refine blk_new' _ _ _ _ ?_) | (with_reducible apply blk_alloc))); (first | (with_reducible rfl) | (simp only [World.size_alloc, World.size_drew]; done) | (simp; done))) hk (fun h => h)) hv (fun h => h)); have LNB : Hd (Keeps (fun _ => False) wy1 wy1) := hid (Keeps.refl _ _)) | skip); replace KC := KC2; clear KC2; (try (have nF0 := blk_cell (HNB.out _ LNB.out) 0; have nG0 := blk_free (HNB.out _ LNB.out) 0; have nF1 := blk_cell (HNB.out _ LNB.out) 1; have nG1 := blk_free (HNB.out _ LNB.out) 1)); have zk := hk.size; (try simp at zk); have zd := KC.out.size; replace hk := hid hk))
      all_goals
        go_wp2_with fail
        go_meet
        first | ((with_reducible refine cutF_new KC.out ?_); exact (fun w' hk => ⟨ra, rc, rao, rco, rfl, rfl, (RF.out.mono (K' := fun b => b ≠ wy1.heap.size) (fun b h1 _ => by omega)).keep hk (fun _ _ _ h => h), (RA.out.mono (K' := fun b => b ≠ wy1.heap.size) (fun b h1 _ => by omega)).keep hk (fun _ _ _ h => h)⟩)) | ((with_reducible refine cutF_old2 KC.out (by first | exact Nat.le_refl _ | omega | (simp; done) | (simp; omega)) (HNB.out _ LNB.out) ?_); (first | exact (fun w' hk => ⟨ra, rc, rao, rco, rfl, rfl, (RF.out.mono (K' := fun b => b ≠ W10.heap.size) (fun b _ h => by (try simp at h); omega)).keep hk (fun b _ h1 h2 => h1 h2), (RA.out.mono (K' := fun b => b ≠ W10.heap.size) (fun b _ h => by (try simp at h); omega)).keep hk (fun b _ h1 h2 => h1 h2)⟩) | exact (fun w' hk => ⟨ra, rc, rao, rco, rfl, rfl, (RF.out.mono (K' := fun b => b ≠ wy0.heap.size) (fun b _ h => by (try simp at h); omega)).keep hk (fun b _ h1 h2 => h1 h2), (RA.out.mono (K' := fun b => b ≠ wy0.heap.size) (fun b _ h => by (try simp at h); omega)).keep hk (fun b _ h1 h2 => h1 h2)⟩))) | ((with_reducible refine cutF_drew (fun _ _ _ h => h) (cutF_new KC.out ?_)); exact (fun w' hk => ⟨ra, rc, rao, rco, rfl, rfl, (RF.out.mono (K' := fun b => b ≠ wy1.heap.size) (fun b h1 _ => by omega)).keep hk (fun _ _ _ h => h), (RA.out.mono (K' := fun b => b ≠ wy1.heap.size) (fun b h1 _ => by omega)).keep hk (fun _ _ _ h => h)⟩)) | ((with_reducible refine cutF_drew (fun _ _ _ h => h) (cutF_old2 KC.out (by first | exact Nat.le_refl _ | omega | (simp; done) | (simp; omega)) (HNB.out _ LNB.out) ?_)); (first | exact (fun w' hk => ⟨ra, rc, rao, rco, rfl, rfl, (RF.out.mono (K' := fun b => b ≠ W10.heap.size) (fun b _ h => by (try simp at h); omega)).keep hk (fun b _ h1 h2 => h1 h2), (RA.out.mono (K' := fun b => b ≠ W10.heap.size) (fun b _ h => by (try simp at h); omega)).keep hk (fun b _ h1 h2 => h1 h2)⟩) | exact (fun w' hk => ⟨ra, rc, rao, rco, rfl, rfl, (RF.out.mono (K' := fun b => b ≠ wy0.heap.size) (fun b _ h => by (try simp at h); omega)).keep hk (fun b _ h1 h2 => h1 h2), (RA.out.mono (K' := fun b => b ≠ wy0.heap.size) (fun b _ h => by (try simp at h); omega)).keep hk (fun b _ h1 h2 => h1 h2)⟩)))
  case rest =>
    obtain ⟨b_BW, cs_BW, rfl, hb_BW, BW, HP, hk⟩ := hcut
    replace hk := hk.out
    generalize wc = W11 at *
    have F1' : Hd (Fls (fun b => W2.heap.size ≤ b) W11 (.slice a1 l.length c1) l) := hid (F1.out.keep hk (fun _ _ _ h => h))
    have BK' : Hd (Blk W11 W3.heap.size #[.slice a1 l.length c1, .int .i64 cn] 28) := hid (blk_keep BK.out hk (fun h => h))
    have SF1' : Hd (Fls (fun b => W4.heap.size ≤ b) W11 (.slice sa1 d1.length sc1) d1) := hid (SF1.out.keep hk (fun _ _ _ h => h))
    have SA1' : Hd (Ars (fun b => W4.heap.size ≤ b) W11 (.slice so1 o1.length sp1) o1) := hid (SA1.out.keep hk (fun _ _ _ h => h))
    have BX' : Hd (Blk W11 W5.heap.size #[.slice sa1 d1.length sc1, .int .i64 cn] 28) := hid (blk_keep BX.out hk (fun h => h))
    have SF2' : Hd (Fls (fun b => W6.heap.size ≤ b) W11 (.slice sa2 d3.length sc2) d3) := hid (SF2.out.keep hk (fun _ _ _ h => h))
    have SA2' : Hd (Ars (fun b => W6.heap.size ≤ b) W11 (.slice so2 o2.length sp2) o2) := hid (SA2.out.keep hk (fun _ _ _ h => h))
    have BY' : Hd (Blk W11 W7.heap.size #[.slice sa2 d3.length sc2, .int .i64 cn] 28) := hid (blk_keep BY.out hk (fun h => h))
    have SF3' : Hd (Fls (fun b => W8.heap.size ≤ b) W11 (.slice sa3 d3.length sc3) d3) := hid (SF3.out.keep hk (fun _ _ _ h => h))
    have SA3' : Hd (Ars (fun b => W8.heap.size ≤ b) W11 (.slice so3 o3.length sp3) o3) := hid (SA3.out.keep hk (fun _ _ _ h => h))
    have BZ' : Hd (Blk W11 W9.heap.size #[.slice sa3 d3.length sc3, .int .i64 cn] 28) := hid (blk_keep BZ.out hk (fun h => h))
    clear F1 BK SF1 SA1 BX SF2 SA2 BY SF3 SA3 BZ
    have F1 := F1'
    clear F1'
    have BK := BK'
    clear BK'
    have SF1 := SF1'
    clear SF1'
    have SA1 := SA1'
    clear SA1'
    have BX := BX'
    clear BX'
    have SF2 := SF2'
    clear SF2'
    have SA2 := SA2'
    clear SA2'
    have BY := BY'
    clear BY'
    have SF3 := SF3'
    clear SF3'
    have SA3 := SA3'
    clear SA3'
    have BZ := BZ'
    clear BZ'
    have HK' : Hd (Keeps (fun _ => False) w W11) := hid (HK.out.trans hk)
    clear HK
    have HK := HK'
    clear HK'
    have z_W11 := hk.size
    clear hk
    obtain ⟨xa, xc, xao, xco, rfl, rfl, hxf, hxa⟩ := HP.out
    have XF := hid hxf; clear hxf hxa HP u1
    have o_BW_0 : W11.cell? ⟨b_BW, 0, none⟩ = some (.slice xa ([] : List Flt).length xc) := blk_cell BW.out 0
    have o_BW_1 : W11.cell? ⟨b_BW, 1, none⟩ = some (.int .i64 cn) := blk_cell BW.out 1
    go_wp2_with fail
    refine (Step_any _ [] cn 1000000 _ (XF.out.mono (fun b h _ => h)) (by simp) (by simp)).mono ?_
    rintro e W12 ⟨sa4, sn4, sc4, so4, sm4, sp4, rfl, hsn, hsm, -, -, hk⟩
    have hs4 : sm4 = 0 := by rw [hsm]; simp
    subst hs4
    clear hsm
    clear o_BW_0 o_BW_1
    have F1' : Hd (Fls (fun b => W2.heap.size ≤ b) W12 (.slice a1 l.length c1) l) := hid (F1.out.keep hk (fun _ _ _ h => h))
    have BK' : Hd (Blk W12 W3.heap.size #[.slice a1 l.length c1, .int .i64 cn] 28) := hid (blk_keep BK.out hk (fun h => h))
    have SF1' : Hd (Fls (fun b => W4.heap.size ≤ b) W12 (.slice sa1 d1.length sc1) d1) := hid (SF1.out.keep hk (fun _ _ _ h => h))
    have SA1' : Hd (Ars (fun b => W4.heap.size ≤ b) W12 (.slice so1 o1.length sp1) o1) := hid (SA1.out.keep hk (fun _ _ _ h => h))
    have BX' : Hd (Blk W12 W5.heap.size #[.slice sa1 d1.length sc1, .int .i64 cn] 28) := hid (blk_keep BX.out hk (fun h => h))
    have SF2' : Hd (Fls (fun b => W6.heap.size ≤ b) W12 (.slice sa2 d3.length sc2) d3) := hid (SF2.out.keep hk (fun _ _ _ h => h))
    have SA2' : Hd (Ars (fun b => W6.heap.size ≤ b) W12 (.slice so2 o2.length sp2) o2) := hid (SA2.out.keep hk (fun _ _ _ h => h))
    have BY' : Hd (Blk W12 W7.heap.size #[.slice sa2 d3.length sc2, .int .i64 cn] 28) := hid (blk_keep BY.out hk (fun h => h))
    have SF3' : Hd (Fls (fun b => W8.heap.size ≤ b) W12 (.slice sa3 d3.length sc3) d3) := hid (SF3.out.keep hk (fun _ _ _ h => h))
    have SA3' : Hd (Ars (fun b => W8.heap.size ≤ b) W12 (.slice so3 o3.length sp3) o3) := hid (SA3.out.keep hk (fun _ _ _ h => h))
    have BZ' : Hd (Blk W12 W9.heap.size #[.slice sa3 d3.length sc3, .int .i64 cn] 28) := hid (blk_keep BZ.out hk (fun h => h))
    have BW' : Hd (Blk W12 b_BW #[.slice xa ([] : List Flt).length xc, .int .i64 cn] 28) := hid (blk_keep BW.out hk (fun h => h))
    have XF' : Hd (Fls (fun b => b ≠ b_BW) W12 (.slice xa ([] : List Flt).length xc) []) := hid (XF.out.keep hk (fun _ _ _ h => h))
    clear F1 BK SF1 SA1 BX SF2 SA2 BY SF3 SA3 BZ BW XF
    have F1 := F1'
    clear F1'
    have BK := BK'
    clear BK'
    have SF1 := SF1'
    clear SF1'
    have SA1 := SA1'
    clear SA1'
    have BX := BX'
    clear BX'
    have SF2 := SF2'
    clear SF2'
    have SA2 := SA2'
    clear SA2'
    have BY := BY'
    clear BY'
    have SF3 := SF3'
    clear SF3'
    have SA3 := SA3'
    clear SA3'
    have BZ := BZ'
    clear BZ'
    have BW := BW'
    clear BW'
    have XF := XF'
    clear XF'
    have HK' : Hd (Keeps (fun _ => False) w W12) := hid (HK.out.trans hk)
    clear HK
    have HK := HK'
    clear HK'
    have z_W12 := hk.size
    clear hk
    go_upto_region 9 with fail
    generalize hW : World.alloc W12 _ = W13
    have KS : Hd (Keeps (fun _ => False) W12 W13) := hid (by rw [← hW]; exact (Keeps.alloc (Keeps.refl (fun _ => False) W12) _))
    have F1' : Hd (Fls (fun b => W2.heap.size ≤ b) W13 (.slice a1 l.length c1) l) := hid (F1.out.keep KS.out (fun _ _ _ h => h))
    have BK' : Hd (Blk W13 W3.heap.size #[.slice a1 l.length c1, .int .i64 cn] 28) := hid (by rw [← hW]; exact (blk_alloc BK.out _))
    have SF1' : Hd (Fls (fun b => W4.heap.size ≤ b) W13 (.slice sa1 d1.length sc1) d1) := hid (SF1.out.keep KS.out (fun _ _ _ h => h))
    have SA1' : Hd (Ars (fun b => W4.heap.size ≤ b) W13 (.slice so1 o1.length sp1) o1) := hid (SA1.out.keep KS.out (fun _ _ _ h => h))
    have BX' : Hd (Blk W13 W5.heap.size #[.slice sa1 d1.length sc1, .int .i64 cn] 28) := hid (by rw [← hW]; exact (blk_alloc BX.out _))
    have SF2' : Hd (Fls (fun b => W6.heap.size ≤ b) W13 (.slice sa2 d3.length sc2) d3) := hid (SF2.out.keep KS.out (fun _ _ _ h => h))
    have SA2' : Hd (Ars (fun b => W6.heap.size ≤ b) W13 (.slice so2 o2.length sp2) o2) := hid (SA2.out.keep KS.out (fun _ _ _ h => h))
    have BY' : Hd (Blk W13 W7.heap.size #[.slice sa2 d3.length sc2, .int .i64 cn] 28) := hid (by rw [← hW]; exact (blk_alloc BY.out _))
    have SF3' : Hd (Fls (fun b => W8.heap.size ≤ b) W13 (.slice sa3 d3.length sc3) d3) := hid (SF3.out.keep KS.out (fun _ _ _ h => h))
    have SA3' : Hd (Ars (fun b => W8.heap.size ≤ b) W13 (.slice so3 o3.length sp3) o3) := hid (SA3.out.keep KS.out (fun _ _ _ h => h))
    have BZ' : Hd (Blk W13 W9.heap.size #[.slice sa3 d3.length sc3, .int .i64 cn] 28) := hid (by rw [← hW]; exact (blk_alloc BZ.out _))
    have BW' : Hd (Blk W13 b_BW #[.slice xa ([] : List Flt).length xc, .int .i64 cn] 28) := hid (by rw [← hW]; exact (blk_alloc BW.out _))
    have XF' : Hd (Fls (fun b => b ≠ b_BW) W13 (.slice xa ([] : List Flt).length xc) []) := hid (XF.out.keep KS.out (fun _ _ _ h => h))
    clear F1 BK SF1 SA1 BX SF2 SA2 BY SF3 SA3 BZ BW XF
    have F1 := F1'
    clear F1'
    have BK := BK'
    clear BK'
    have SF1 := SF1'
    clear SF1'
    have SA1 := SA1'
    clear SA1'
    have BX := BX'
    clear BX'
    have SF2 := SF2'
    clear SF2'
    have SA2 := SA2'
    clear SA2'
    have BY := BY'
    clear BY'
    have SF3 := SF3'
    clear SF3'
    have SA3 := SA3'
    clear SA3'
    have BZ := BZ'
    clear BZ'
    have BW := BW'
    clear BW'
    have XF := XF'
    clear XF'
    have HK' : Hd (Keeps (fun _ => False) w W13) := hid (HK.out.trans KS.out)
    clear HK
    have HK := HK'
    clear HK'
    have z_W13 : W12.heap.size + 1 ≤ W13.heap.size := by rw [← hW]; simp
    clear hW KS
    obtain ⟨xs1, hr1, hc1⟩ := SA1.out.c
    obtain ⟨xs2, hr2, hc2⟩ := SA2.out.c
    have R1 := hid hr1; have R2 := hid hr2; have C1 := hid hc1; have C2 := hid hc2; clear hr1 hr2 hc1 hc2
    have N1 := hid (ar_one C1.out); have N2 := hid (ar_one C2.out)
    go_wp2_with (at_builtin; refine wpList_unguard (by rfl) ?_; refine wpList_append_row rfl (.tmp 79) (.tmp 80) 41 rfl 55 i0 zz 3 40 Try.underlying41 hi hz0 hz1 hz2 hz3 (by decide) _ (fun _ => True) _ _ 0 [] rfl (own_blk0 (by (first | exact blk_new _ _ _ | exact blk_alloc (blk_new _ _ _) _)) 3) o1.length xs1 rfl ((R1.out.keep (keeps_alloc (fun _ => False) _ _) (fun _ _ _ h => h)).mono (fun _ _ _ => trivial)) N1.out (by simp [maxLen]; omega) (by omega) ?_)
    intro a5 c5 w5 hown5 hk5; try intro _
    try simp only [Nat.zero_add, List.nil_append] at hown5 ⊢
    have HO5 : Hd (Own (fun b => W13.heap.size ≤ b) w5 55 3 (.slice a5 o1.length c5) o1.length xs1) := hid (hown5.mono (fun b _ h => by rcases h with h | h <;> (try simp at h) <;> omega))
    have K5 : Hd (Keeps (fun _ => False) W13 w5) := hid (Keeps.trans' (S := fun _ => False) (keeps_alloc _ _ _) hk5 (fun i hi h => by omega))
    clear hown5 hk5
    have R2' := hid (R2.out.keep K5.out (fun _ _ _ h => h))
    go_wp2_with (at_builtin; refine wpList_unguard (by rfl) ?_; refine wpList_append_row rfl (.tmp 81) (.tmp 82) 41 rfl 55 i0 zz 3 40 Try.underlying41 hi hz0 hz1 hz2 hz3 (by decide) _ (fun _ => True) _ _ o1.length _ rfl HO5.out o2.length xs2 rfl (R2'.out.mono (fun _ _ _ => trivial)) N2.out (by simp [maxLen]; omega) (by omega) ?_)
    intro a6 c6 w6 hown6 hk6; try intro _
    have K6 : Hd (Keeps (fun _ => False) W13 w6) := hid (K5.out.trans' hk6 (fun i hi h => by omega))
    have HO6 : Hd (Ars (fun _ => True) w6 (.slice a6 o3.length c6) o3) := hid (by
      refine ⟨xs1 ++ xs2, by first | exact hown6.row.mono (fun _ _ _ => trivial) | (have h6 := hown6.row.mono (K' := fun _ => True) (fun _ _ _ => trivial); rw [L6'] at h6; exact h6), fun i y hi => ?_⟩
      rw [← HO4.out] at hi
      exact (((C1.out.keep K6.out (fun _ _ _ h => h)).mono (K' := fun _ => True) (fun _ _ _ => trivial)).append ((C2.out.keep K6.out (fun _ _ _ h => h)).mono (K' := fun _ => True) (fun _ _ _ => trivial))).2 i y hi)
    clear hown6 HO5 R2' R1 R2 C1 C2 N1 N2
    have hk := K6.out
    have F1' : Hd (Fls (fun b => W2.heap.size ≤ b) w6 (.slice a1 l.length c1) l) := hid (F1.out.keep hk (fun _ _ _ h => h))
    have BK' : Hd (Blk w6 W3.heap.size #[.slice a1 l.length c1, .int .i64 cn] 28) := hid (blk_keep BK.out hk (fun h => h))
    have SF1' : Hd (Fls (fun b => W4.heap.size ≤ b) w6 (.slice sa1 d1.length sc1) d1) := hid (SF1.out.keep hk (fun _ _ _ h => h))
    have SA1' : Hd (Ars (fun b => W4.heap.size ≤ b) w6 (.slice so1 o1.length sp1) o1) := hid (SA1.out.keep hk (fun _ _ _ h => h))
    have BX' : Hd (Blk w6 W5.heap.size #[.slice sa1 d1.length sc1, .int .i64 cn] 28) := hid (blk_keep BX.out hk (fun h => h))
    have SF2' : Hd (Fls (fun b => W6.heap.size ≤ b) w6 (.slice sa2 d3.length sc2) d3) := hid (SF2.out.keep hk (fun _ _ _ h => h))
    have SA2' : Hd (Ars (fun b => W6.heap.size ≤ b) w6 (.slice so2 o2.length sp2) o2) := hid (SA2.out.keep hk (fun _ _ _ h => h))
    have BY' : Hd (Blk w6 W7.heap.size #[.slice sa2 d3.length sc2, .int .i64 cn] 28) := hid (blk_keep BY.out hk (fun h => h))
    have SF3' : Hd (Fls (fun b => W8.heap.size ≤ b) w6 (.slice sa3 d3.length sc3) d3) := hid (SF3.out.keep hk (fun _ _ _ h => h))
    have SA3' : Hd (Ars (fun b => W8.heap.size ≤ b) w6 (.slice so3 o3.length sp3) o3) := hid (SA3.out.keep hk (fun _ _ _ h => h))
    have BZ' : Hd (Blk w6 W9.heap.size #[.slice sa3 d3.length sc3, .int .i64 cn] 28) := hid (blk_keep BZ.out hk (fun h => h))
    have BW' : Hd (Blk w6 b_BW #[.slice xa ([] : List Flt).length xc, .int .i64 cn] 28) := hid (blk_keep BW.out hk (fun h => h))
    have XF' : Hd (Fls (fun b => b ≠ b_BW) w6 (.slice xa ([] : List Flt).length xc) []) := hid (XF.out.keep hk (fun _ _ _ h => h))
    clear F1 BK SF1 SA1 BX SF2 SA2 BY SF3 SA3 BZ BW XF
    have F1 := F1'
    clear F1'
    have BK := BK'
    clear BK'
    have SF1 := SF1'
    clear SF1'
    have SA1 := SA1'
    clear SA1'
    have BX := BX'
    clear BX'
    have SF2 := SF2'
    clear SF2'
    have SA2 := SA2'
    clear SA2'
    have BY := BY'
    clear BY'
    have SF3 := SF3'
    clear SF3'
    have SA3 := SA3'
    clear SA3'
    have BZ := BZ'
    clear BZ'
    have BW := BW'
    clear BW'
    have XF := XF'
    clear XF'
    have HK' : Hd (Keeps (fun _ => False) w w6) := hid (HK.out.trans hk)
    clear HK
    have HK := HK'
    clear HK'
    have z_w6 := hk.size
    clear hk
    clear K6 K5 hk6
    go_wp2_with fail
    refine (SameArr_any _ _ _ _ o3 o3 _ HO6.out SA3.out (EqA.refl _) (by omega) (fun x hx => HD8.out x (M4.out x hx))).mono ?_
    rintro e W14 ⟨rfl, hd⟩
    have hk := drawn_keeps (fun _ => False) hd
    clear hd
    have F1' : Hd (Fls (fun b => W2.heap.size ≤ b) W14 (.slice a1 l.length c1) l) := hid (F1.out.keep hk (fun _ _ _ h => h))
    have BK' : Hd (Blk W14 W3.heap.size #[.slice a1 l.length c1, .int .i64 cn] 28) := hid (blk_keep BK.out hk (fun h => h))
    have SF1' : Hd (Fls (fun b => W4.heap.size ≤ b) W14 (.slice sa1 d1.length sc1) d1) := hid (SF1.out.keep hk (fun _ _ _ h => h))
    have SA1' : Hd (Ars (fun b => W4.heap.size ≤ b) W14 (.slice so1 o1.length sp1) o1) := hid (SA1.out.keep hk (fun _ _ _ h => h))
    have BX' : Hd (Blk W14 W5.heap.size #[.slice sa1 d1.length sc1, .int .i64 cn] 28) := hid (blk_keep BX.out hk (fun h => h))
    have SF2' : Hd (Fls (fun b => W6.heap.size ≤ b) W14 (.slice sa2 d3.length sc2) d3) := hid (SF2.out.keep hk (fun _ _ _ h => h))
    have SA2' : Hd (Ars (fun b => W6.heap.size ≤ b) W14 (.slice so2 o2.length sp2) o2) := hid (SA2.out.keep hk (fun _ _ _ h => h))
    have BY' : Hd (Blk W14 W7.heap.size #[.slice sa2 d3.length sc2, .int .i64 cn] 28) := hid (blk_keep BY.out hk (fun h => h))
    have SF3' : Hd (Fls (fun b => W8.heap.size ≤ b) W14 (.slice sa3 d3.length sc3) d3) := hid (SF3.out.keep hk (fun _ _ _ h => h))
    have SA3' : Hd (Ars (fun b => W8.heap.size ≤ b) W14 (.slice so3 o3.length sp3) o3) := hid (SA3.out.keep hk (fun _ _ _ h => h))
    have BZ' : Hd (Blk W14 W9.heap.size #[.slice sa3 d3.length sc3, .int .i64 cn] 28) := hid (blk_keep BZ.out hk (fun h => h))
    have BW' : Hd (Blk W14 b_BW #[.slice xa ([] : List Flt).length xc, .int .i64 cn] 28) := hid (blk_keep BW.out hk (fun h => h))
    have XF' : Hd (Fls (fun b => b ≠ b_BW) W14 (.slice xa ([] : List Flt).length xc) []) := hid (XF.out.keep hk (fun _ _ _ h => h))
    have HO6' : Hd (Ars (fun _ => True) W14 (.slice a6 o3.length c6) o3) := hid (HO6.out.keep hk (fun _ _ _ h => h))
    clear F1 BK SF1 SA1 BX SF2 SA2 BY SF3 SA3 BZ BW XF HO6
    have F1 := F1'
    clear F1'
    have BK := BK'
    clear BK'
    have SF1 := SF1'
    clear SF1'
    have SA1 := SA1'
    clear SA1'
    have BX := BX'
    clear BX'
    have SF2 := SF2'
    clear SF2'
    have SA2 := SA2'
    clear SA2'
    have BY := BY'
    clear BY'
    have SF3 := SF3'
    clear SF3'
    have SA3 := SA3'
    clear SA3'
    have BZ := BZ'
    clear BZ'
    have BW := BW'
    clear BW'
    have XF := XF'
    clear XF'
    have HO6 := HO6'
    clear HO6'
    have HK' : Hd (Keeps (fun _ => False) w W14) := hid (HK.out.trans hk)
    clear HK
    have HK := HK'
    clear HK'
    have z_W14 := hk.size
    clear hk
    have o_BY_0 : W14.cell? ⟨W7.heap.size, 0, none⟩ = some (.slice sa2 d3.length sc2) := blk_cell BY.out 0
    have o_BY_1 : W14.cell? ⟨W7.heap.size, 1, none⟩ = some (.int .i64 cn) := blk_cell BY.out 1
    have o_BZ_0 : W14.cell? ⟨W9.heap.size, 0, none⟩ = some (.slice sa3 d3.length sc3) := blk_cell BZ.out 0
    have o_BZ_1 : W14.cell? ⟨W9.heap.size, 1, none⟩ = some (.int .i64 cn) := blk_cell BZ.out 1
    go_wp2_with fail
    refine (Same_any _ _ _ _ d3 cn _ SF2.out SF3.out (by omega) (fun x hx => HD8.out x (M3.out x hx))).mono ?_
    rintro e W15 ⟨rfl, hk⟩
    clear o_BY_0 o_BY_1 o_BZ_0 o_BZ_1
    have F1' : Hd (Fls (fun b => W2.heap.size ≤ b) W15 (.slice a1 l.length c1) l) := hid (F1.out.keep hk (fun _ _ _ h => h))
    have BK' : Hd (Blk W15 W3.heap.size #[.slice a1 l.length c1, .int .i64 cn] 28) := hid (blk_keep BK.out hk (fun h => h))
    have SF1' : Hd (Fls (fun b => W4.heap.size ≤ b) W15 (.slice sa1 d1.length sc1) d1) := hid (SF1.out.keep hk (fun _ _ _ h => h))
    have SA1' : Hd (Ars (fun b => W4.heap.size ≤ b) W15 (.slice so1 o1.length sp1) o1) := hid (SA1.out.keep hk (fun _ _ _ h => h))
    have BX' : Hd (Blk W15 W5.heap.size #[.slice sa1 d1.length sc1, .int .i64 cn] 28) := hid (blk_keep BX.out hk (fun h => h))
    have SF2' : Hd (Fls (fun b => W6.heap.size ≤ b) W15 (.slice sa2 d3.length sc2) d3) := hid (SF2.out.keep hk (fun _ _ _ h => h))
    have SA2' : Hd (Ars (fun b => W6.heap.size ≤ b) W15 (.slice so2 o2.length sp2) o2) := hid (SA2.out.keep hk (fun _ _ _ h => h))
    have BY' : Hd (Blk W15 W7.heap.size #[.slice sa2 d3.length sc2, .int .i64 cn] 28) := hid (blk_keep BY.out hk (fun h => h))
    have SF3' : Hd (Fls (fun b => W8.heap.size ≤ b) W15 (.slice sa3 d3.length sc3) d3) := hid (SF3.out.keep hk (fun _ _ _ h => h))
    have SA3' : Hd (Ars (fun b => W8.heap.size ≤ b) W15 (.slice so3 o3.length sp3) o3) := hid (SA3.out.keep hk (fun _ _ _ h => h))
    have BZ' : Hd (Blk W15 W9.heap.size #[.slice sa3 d3.length sc3, .int .i64 cn] 28) := hid (blk_keep BZ.out hk (fun h => h))
    have BW' : Hd (Blk W15 b_BW #[.slice xa ([] : List Flt).length xc, .int .i64 cn] 28) := hid (blk_keep BW.out hk (fun h => h))
    have XF' : Hd (Fls (fun b => b ≠ b_BW) W15 (.slice xa ([] : List Flt).length xc) []) := hid (XF.out.keep hk (fun _ _ _ h => h))
    have HO6' : Hd (Ars (fun _ => True) W15 (.slice a6 o3.length c6) o3) := hid (HO6.out.keep hk (fun _ _ _ h => h))
    clear F1 BK SF1 SA1 BX SF2 SA2 BY SF3 SA3 BZ BW XF HO6
    have F1 := F1'
    clear F1'
    have BK := BK'
    clear BK'
    have SF1 := SF1'
    clear SF1'
    have SA1 := SA1'
    clear SA1'
    have BX := BX'
    clear BX'
    have SF2 := SF2'
    clear SF2'
    have SA2 := SA2'
    clear SA2'
    have BY := BY'
    clear BY'
    have SF3 := SF3'
    clear SF3'
    have SA3 := SA3'
    clear SA3'
    have BZ := BZ'
    clear BZ'
    have BW := BW'
    clear BW'
    have XF := XF'
    clear XF'
    have HO6 := HO6'
    clear HO6'
    have HK' : Hd (Keeps (fun _ => False) w W15) := hid (HK.out.trans hk)
    clear HK
    have HK := HK'
    clear HK'
    have z_W15 := hk.size
    clear hk
    have o_BW_0 : W15.cell? ⟨b_BW, 0, none⟩ = some (.slice xa ([] : List Flt).length xc) := blk_cell BW.out 0
    have o_BW_1 : W15.cell? ⟨b_BW, 1, none⟩ = some (.int .i64 cn) := blk_cell BW.out 1
    go_wp2_with fail
    refine (lives_any _).mono ?_
    rintro e W16 ⟨rfl, hk⟩
    clear o_BW_0 o_BW_1
    have F1' : Hd (Fls (fun b => W2.heap.size ≤ b) W16 (.slice a1 l.length c1) l) := hid (F1.out.keep hk (fun _ _ _ h => h))
    have BK' : Hd (Blk W16 W3.heap.size #[.slice a1 l.length c1, .int .i64 cn] 28) := hid (blk_keep BK.out hk (fun h => h))
    have SF1' : Hd (Fls (fun b => W4.heap.size ≤ b) W16 (.slice sa1 d1.length sc1) d1) := hid (SF1.out.keep hk (fun _ _ _ h => h))
    have SA1' : Hd (Ars (fun b => W4.heap.size ≤ b) W16 (.slice so1 o1.length sp1) o1) := hid (SA1.out.keep hk (fun _ _ _ h => h))
    have BX' : Hd (Blk W16 W5.heap.size #[.slice sa1 d1.length sc1, .int .i64 cn] 28) := hid (blk_keep BX.out hk (fun h => h))
    have SF2' : Hd (Fls (fun b => W6.heap.size ≤ b) W16 (.slice sa2 d3.length sc2) d3) := hid (SF2.out.keep hk (fun _ _ _ h => h))
    have SA2' : Hd (Ars (fun b => W6.heap.size ≤ b) W16 (.slice so2 o2.length sp2) o2) := hid (SA2.out.keep hk (fun _ _ _ h => h))
    have BY' : Hd (Blk W16 W7.heap.size #[.slice sa2 d3.length sc2, .int .i64 cn] 28) := hid (blk_keep BY.out hk (fun h => h))
    have SF3' : Hd (Fls (fun b => W8.heap.size ≤ b) W16 (.slice sa3 d3.length sc3) d3) := hid (SF3.out.keep hk (fun _ _ _ h => h))
    have SA3' : Hd (Ars (fun b => W8.heap.size ≤ b) W16 (.slice so3 o3.length sp3) o3) := hid (SA3.out.keep hk (fun _ _ _ h => h))
    have BZ' : Hd (Blk W16 W9.heap.size #[.slice sa3 d3.length sc3, .int .i64 cn] 28) := hid (blk_keep BZ.out hk (fun h => h))
    have BW' : Hd (Blk W16 b_BW #[.slice xa ([] : List Flt).length xc, .int .i64 cn] 28) := hid (blk_keep BW.out hk (fun h => h))
    have XF' : Hd (Fls (fun b => b ≠ b_BW) W16 (.slice xa ([] : List Flt).length xc) []) := hid (XF.out.keep hk (fun _ _ _ h => h))
    have HO6' : Hd (Ars (fun _ => True) W16 (.slice a6 o3.length c6) o3) := hid (HO6.out.keep hk (fun _ _ _ h => h))
    clear F1 BK SF1 SA1 BX SF2 SA2 BY SF3 SA3 BZ BW XF HO6
    have F1 := F1'
    clear F1'
    have BK := BK'
    clear BK'
    have SF1 := SF1'
    clear SF1'
    have SA1 := SA1'
    clear SA1'
    have BX := BX'
    clear BX'
    have SF2 := SF2'
    clear SF2'
    have SA2 := SA2'
    clear SA2'
    have BY := BY'
    clear BY'
    have SF3 := SF3'
    clear SF3'
    have SA3 := SA3'
    clear SA3'
    have BZ := BZ'
    clear BZ'
    have BW := BW'
    clear BW'
    have XF := XF'
    clear XF'
    have HO6 := HO6'
    clear HO6'
    have HK' : Hd (Keeps (fun _ => False) w W16) := hid (HK.out.trans hk)
    clear HK
    have HK := HK'
    clear HK'
    have z_W16 := hk.size
    clear hk
    go_wp2
    go_ret
    exact ⟨rfl, HK.out⟩
end Go.Proofs.Ytffnocjaljgnoaa
