/- Link: the reference's Fate, Spoil, put. -/
import Derived.Test.YtjapmpolagblaaaLinkN
import Derived.Deep.Cut
namespace Go.Proofs.Ytjapmpolagblaaa
open Go.RowKit
attribute [local go_sem ↓] Go.wp_at_zero Go.wp_at_succ
theorem fin5n {w W : World} {b : Nat} {T : TypeId} {c0 c1 c2 c3 c4 : Value} (hk : Keeps (fun _ => False) w W) (hb : w.heap.size ≤ b) (hB : Blk W b #[c0, c1, c2, c3, c4] T) (u0 u1 u2 u3 u4 : Value) :
    Keeps (fun _ => False) w (((((W.setCell ⟨b, 0, none⟩ u0).setCell ⟨b, 1, none⟩ u1).setCell ⟨b, 2, none⟩ u2).setCell ⟨b, 3, none⟩ u3).setCell ⟨b, 4, none⟩ u4) ∧ Blk (((((W.setCell ⟨b, 0, none⟩ u0).setCell ⟨b, 1, none⟩ u1).setCell ⟨b, 2, none⟩ u2).setCell ⟨b, 3, none⟩ u3).setCell ⟨b, 4, none⟩ u4) b #[u0, u1, u2, u3, u4] T :=
  ⟨((((hk.setCell (.inr hb) _).setCell (.inr hb) _).setCell (.inr hb) _).setCell (.inr hb) _).setCell (.inr hb) _, blk_set (blk_set (blk_set (blk_set (blk_set hB 0 u0) 1 u1) 2 u2) 3 u3) 4 u4⟩
theorem own_head {S : Nat → Prop} {w : World} {e : TypeId} {size : Nat} {a : Option Addr} {n m c : Nat} {xs : List Value} (h : Own S w e size (.slice a n c) m xs) (h0 : 0 < n) : ∃ g, a = some ⟨g, 0, none⟩ ∧ S g := by
  obtain ⟨⟨_, ⟨h1, _⟩ | ⟨g, cap, cur, h1, _⟩⟩, hS⟩ := h
  · injection h1 with _ h1; omega
  · injection h1 with h1; exact ⟨g, h1, hS g (by rw [h1]; rfl)⟩
def FatePost (K : Nat → Prop) (w : World) (f : Ft) (r : Ending) (w' : World) : Prop := ∃ v, r = .returned v ∧ FtV K w' v f ∧ Keeps (fun _ => False) w w'
theorem fate_find (l : List Ft) (c : Int) : fateL l c = (l.find? (fun x => x.m == c)).getD Ft.nil := rfl
set_option maxRecDepth 100000 in set_option maxHeartbeats 1000000 in
theorem refFate_any (K : Nat → Prop) (v : Value) (l : List Ft) (cn : Int) (w : World) (hl : Fts K w v l) (hm : l.length ≤ 1000000) :
    Calls Try.prog 28 #[v, .int .i64 cn] w fun e w' => FatePost K w (fateL l cn) e w' := by
  obtain ⟨sa, cap, rfl, -⟩ := fls_form hl
  rw [List.length_map] at *
  have HL := hid hl
  have HR : Hd (fateL l cn = (l.find? (fun x => x.m == cn)).getD Ft.nil) := hid rfl
  generalize fateL l cn = R at *
  generalize hll : l.length = m at *
  have HLL := hid hll; clear hll hl
  go_enter Try.func28, Try.ntmps28
  go_upto_region 1 with fail
  generalize hW : World.alloc w _ = W
  have BR : Hd (Blk W w.heap.size #[.int .i64 0, .int .i64 0, .int .i64 0, .int .i64 0, .slice none 0 0] 64) := hid (by rw [← hW]; exact blk_new _ _ _)
  have KW : Hd (Keeps (fun _ => False) w W) := hid (by rw [← hW]; exact keeps_alloc _ _ _)
  clear hW
  go_wp2_with fail
  go_loopw [5] (fun i wr => ∃ k : Nat, i = .int .i64 k ∧ k ≤ m ∧ Hd (∀ j y, j < k → l[j]? = some y → (y.m == cn) = false) ∧ wr = W) (fun i _ => m - (intOf i).toNat)
  case atStart => exact ⟨0, rfl, Nat.zero_le _, hid (fun j y hj => by omega), rfl⟩
  case round =>
    obtain ⟨k, rfl, hk, HNO, rfl⟩ := hrel
    have o0 : wr.cell? ⟨w.heap.size, 0, none⟩ = some (.int .i64 0) := blk_cell BR.out 0
    have o1 : wr.cell? ⟨w.heap.size, 1, none⟩ = some (.int .i64 0) := blk_cell BR.out 1
    have o2 : wr.cell? ⟨w.heap.size, 2, none⟩ = some (.int .i64 0) := blk_cell BR.out 2
    have o3 : wr.cell? ⟨w.heap.size, 3, none⟩ = some (.int .i64 0) := blk_cell BR.out 3
    have o4 : wr.cell? ⟨w.heap.size, 4, none⟩ = some (.slice none 0 0) := blk_cell BR.out 4
    have y0 := blk_free BR.out 0; have y1 := blk_free BR.out 1; have y2 := blk_free BR.out 2; have y3 := blk_free BR.out 3; have y4 := blk_free BR.out 4
    by_cases hkm : k < m
    · obtain ⟨bb, o, rfl, hb1, hb2, hcc⟩ := fls_cells HL.out (by rw [List.length_map, HLL.out]; omega)
      obtain ⟨x, hx⟩ : ∃ x, l[k]? = some x := ⟨l[k]'(by rw [HLL.out]; exact hkm), List.getElem?_eq_getElem _⟩
      obtain ⟨c0, c1, c2, c3, ad, cd, c4, hs⟩ := hcc k x.fl (by rw [List.getElem?_map, hx]; rfl)
      have f0 : wr.cell? ⟨bb, o + k * 5, none⟩ = some (.int .i64 x.m) := keep_cell KW.out (fun h => h) c0
      have f1 : wr.cell? ⟨bb, o + k * 5 + 1, none⟩ = some (.int .i64 x.k) := keep_cell KW.out (fun h => h) c1
      have f2 : wr.cell? ⟨bb, o + k * 5 + 2, none⟩ = some (.int .i64 x.dl) := keep_cell KW.out (fun h => h) c2
      have f3 : wr.cell? ⟨bb, o + k * 5 + 3, none⟩ = some (.int .i64 x.a) := keep_cell KW.out (fun h => h) c3
      have f4 : wr.cell? ⟨bb, o + k * 5 + 4, none⟩ = some (.slice ad x.fg.length cd) := keep_cell KW.out (fun h => h) c4
      have HS : Hd (Sl K w (.slice ad x.fg.length cd) (u8s x.fg)) := hid hs
      have HX := hid hx
      clear hcc c0 c1 c2 c3 c4 hs hx
      have k1 : (k : Int) < m := by omega
      have k2 : (0 : Int) ≤ k := by omega
      by_cases hq : x.m = cn
      · have d1 : (x.m == cn) = true := by simp; exact hq
        have HF : Hd (R = x) := hid (by rw [HR.out, find_at HNO.out HX.out d1]; rfl)
        obtain ⟨HV2, B3⟩ := fin5n KW.out (Nat.le_refl _) BR.out (.int .i64 x.m) (.int .i64 x.k) (.int .i64 x.dl) (.int .i64 x.a) (.slice ad x.fg.length cd)
        have r0 := blk_cell B3 0
        have r1 := blk_cell B3 1
        have r2 := blk_cell B3 2
        have r3 := blk_cell B3 3
        have r4 := blk_cell B3 4
        have HV := hid HV2
        clear HV2 B3 hq
        go_wp2
        refine bodyPost_ret (v := .agg #[.int .i64 x.m, .int .i64 x.k, .int .i64 x.dl, .int .i64 x.a, .slice ad x.fg.length cd]) (by simp [results, Try.results28, go_sem, r0, r1, r2, r3, r4]) rfl ?_
        rw [HF.out]
        exact ⟨_, rfl, ⟨ad, cd, rfl, HS.out.keep HV.out (fun _ _ _ h => h)⟩, HV.out⟩
      · have d1 : (x.m == cn) = false := by simp; exact hq
        have HNO2 : Hd (∀ j y, j < k + 1 → l[j]? = some y → (y.m == cn) = false) := hid (fun j y hj hy => by
          rcases Nat.lt_or_ge j k with h | h
          · exact HNO.out j y h hy
          · obtain rfl : j = k := by omega
            rw [HX.out] at hy; injection hy with hy; subst hy; exact d1)
        clear hq HNO
        go_wp2
        go_roundw
        case rel => exact ⟨k + 1, by go_num, by omega, HNO2, trivial⟩
        case measure => simp [intOf]; omega
    · have hkm2 : k = m := by omega
      have HF : Hd (R = Ft.nil) := hid (by rw [HR.out, find_no (fun i y hi hy => HNO.out i y (by rw [HLL.out] at hi; omega) hy)]; rfl)
      have k0 : ¬ ((k : Int) < m) := by omega
      obtain ⟨HV2, B3⟩ := fin5n KW.out (Nat.le_refl _) BR.out (.int .i64 0) (.int .i64 0) (.int .i64 0) (.int .i64 0) (.slice none 0 0)
      have r0 := blk_cell B3 0
      have r1 := blk_cell B3 1
      have r2 := blk_cell B3 2
      have r3 := blk_cell B3 3
      have r4 := blk_cell B3 4
      have HV := hid HV2
      clear HV2 B3 hkm hkm2 HNO
      go_wp2
      refine bodyPost_ret (v := .agg #[.int .i64 0, .int .i64 0, .int .i64 0, .int .i64 0, .slice none 0 0]) (by simp [results, Try.results28, go_sem, r0, r1, r2, r3, r4]) rfl ?_
      rw [HF.out]
      exact ⟨_, rfl, ⟨none, 0, rfl, Sl.nil _ _⟩, HV.out⟩

set_option maxRecDepth 100000 in set_option maxHeartbeats 1000000 in
theorem refSpoil_any (v : Value) (b : List Nat) (fv : Value) (x : Ft) (w : World) (hv : Sl (fun b => b < w.heap.size) w v (u8s b)) (hf : FtV (fun b => b < w.heap.size) w fv x) (hb : ∀ c ∈ b, c < 256) (hm : b.length ≤ 1000000000) (hm2 : x.fg.length ≤ 1000000000) :
    Calls Try.prog 29 #[v, fv] w fun e w' => SpoilRet w (spoilL b x) e w' := by
  obtain ⟨af, cf, rfl, hf1⟩ := hf
  have HF := hid hf1; have HV := hid hv; have HB := hid hb
  obtain ⟨a, cap, rfl, q1, q2, _⟩ := hv.bytes
  clear hv hf1 hb
  obtain ⟨i0, hi, hz0, hz1, hz2⟩ := info_parts infoU8
  have HFW : Hd (∀ W, Keeps (fun _ => False) w W → Calls Try.prog 26 #[.slice a b.length cap, .int .i64 (b.length : Nat)] W fun e w' => NewRet W 5 (u8s b) e w') := hid (fun W hk => by
    have := Few_any _ _ b b.length W (HV.out.keep hk (fun _ _ _ h => h)) (by omega) (by rw [List.length_take]; omega)
    rwa [Int.toNat_natCast, List.take_length] at this)
  have HFG : Hd (∀ W, Keeps (fun _ => False) w W → Calls Try.prog 26 #[.slice af x.fg.length cf, .int .i64 (x.fg.length : Nat)] W fun e w' => NewRet W 5 (u8s x.fg) e w') := hid (fun W hk => by
    have := Few_any _ _ x.fg x.fg.length W (HF.out.keep hk (fun _ _ _ h => h)) (by omega) (by rw [List.length_take]; omega)
    rwa [Int.toNat_natCast, List.take_length] at this)
  generalize hbl : b.length = n at *
  have HBL := hid hbl; clear hbl
  generalize hfl : x.fg.length = p at *
  have HFL := hid hfl; clear hfl
  go_enter Try.func29, Try.ntmps29
  go_upto_region 1 with fail
  generalize hW : World.alloc w _ = W
  have BX : Hd (Blk W w.heap.size #[.int .i64 x.m, .int .i64 x.k, .int .i64 x.dl, .int .i64 x.a, .slice af p cf] 64) := hid (by rw [← hW]; exact blk_new _ _ _)
  have KW : Hd (Keeps (fun _ => False) w W) := hid (by rw [← hW]; exact keeps_alloc _ _ _)
  have zW := KW.out.size
  have zX := blk_lt BX.out
  clear hW
  go_wp2_with fail
  refine (HFW.out W KW.out).mono ?_
  rintro e w2 ⟨a2, n2, c2, rfl, hn2, ho2, hk2⟩
  obtain rfl : n2 = n := by rw [hn2, u8s_length, HBL.out]
  have HOW : Hd (Own (fun i => W.heap.size ≤ i) w2 5 1 (.slice a2 n2 c2) n2 (u8s b)) := hid ho2
  have BX2 := hid (blk_keep BX.out hk2 (fun h => h))
  have K2 := hid (KW.out.trans hk2)
  have z2 := hk2.size
  clear hn2 ho2 hk2
  generalize n2 = n at *
  have o1 : w2.cell? ⟨w.heap.size, 1, none⟩ = some (.int .i64 x.k) := blk_cell BX2.out 1
  have o3 : w2.cell? ⟨w.heap.size, 3, none⟩ = some (.int .i64 x.a) := blk_cell BX2.out 3
  have o4 : w2.cell? ⟨w.heap.size, 4, none⟩ = some (.slice af p cf) := blk_cell BX2.out 4
  have HNE : Hd (n = 0 ↔ b = []) := hid (by rw [← HBL.out]; exact List.length_eq_zero_iff)
  have plain : Hd (spoilL b x = b → SpoilRet w (spoilL b x) (.returned (.slice a2 n c2)) w2) := hid (fun e => by
    rw [e]
    exact ⟨_, _, by rw [HBL.out], by rw [HBL.out]; exact (row_sl HOW.out.row (by rw [u8s_length, HBL.out])).mono (fun b _ h => by omega), K2.out⟩)
  by_cases k5 : x.k = 5
  · have h5 : (x.k == 5) = true := by simp; exact k5
    have h3 : (x.k == 3) = false := by rw [k5]; rfl
    have h4 : (x.k == 4) = false := by rw [k5]; rfl
    have HSP : Hd (spoilL b x = x.fg) := hid (by unfold spoilL; rw [if_pos k5])
    clear k5 plain
    go_wp2_with fail
    refine (HFG.out w2 K2.out).mono ?_
    rintro e w3 ⟨a3, n3, c3, rfl, hn3, ho3, hk3⟩
    have HR : Hd (SpoilRet w (spoilL b x) (.returned (.slice a3 n3 c3)) w3) := hid (by
      have h := ho3.row.mono (K' := fun i => w.heap.size ≤ i) (fun b _ h => by omega)
      rw [hn3, u8s_length] at h ⊢
      rw [HSP.out]
      exact ⟨_, _, rfl, row_sl h (by rw [u8s_length]), K2.out.trans hk3⟩)
    clear hn3 ho3 hk3
    go_wp2
    go_ret
    exact HR.out
  · have h5 : (x.k == 5) = false := by simp; exact k5
    by_cases k3 : x.k = 3
    · have h3 : (x.k == 3) = true := by simp; exact k3
      obtain ⟨j, hj⟩ : ∃ j, j = min n (max x.a 0).toNat := ⟨_, rfl⟩
      have HL : Hd (spoilL b x = b.take j) := hid (by
        unfold spoilL
        rw [if_neg k5, if_pos k3, hj, ← HBL.out]
        rcases Nat.le_total b.length (max x.a 0).toNat with h | h
        · rw [Nat.min_eq_left h, List.take_of_length_le h, List.take_length]
        · rw [Nat.min_eq_right h])
      have main : ∀ hh : Int, hh = j → (∃ a3 c3, (∀ w, (Instr.slice 35 (.slice a2 n c2) none (some (.int .i64 hh)) none).run Try.prog w = .ok (.slice a3 j c3) w) ∧ Hd (SpoilRet w (spoilL b x) (.returned (.slice a3 j c3)) w2)) := fun hh hhj => by
        obtain ⟨a3, c3, hcut, hr⟩ := run_cut_to (P := Try.prog) (t := 35) Try.underlying35 hi hz1 HOW.out.row (hh := hh) j hhj (by omega)
        refine ⟨a3, c3, hcut, hid ?_⟩
        have hlen : (b.take j).length = j := by rw [List.length_take, HBL.out]; omega
        rw [HL.out]
        refine ⟨_, _, by rw [hlen], ?_, K2.out⟩
        rw [hlen]
        have e2 : u8s (b.take j) = (u8s b).take (j * 1) := by unfold u8s; rw [List.map_take, Nat.mul_one]
        exact (row_sl (by rw [e2]; exact hr) (by rw [u8s_length, hlen])).mono (fun b _ h => by omega)
      clear k3 k5 HOW HL plain
      rcases (show (x.a < 0 ∧ j = 0) ∨ (0 ≤ x.a ∧ x.a < n ∧ (j : Int) = x.a) ∨ (0 ≤ x.a ∧ (n : Int) ≤ x.a ∧ j = n) by omega) with ⟨g1, g2⟩ | ⟨g1, g2, g3⟩ | ⟨g1, g2, g3⟩
      · subst g2
        clear hj
        rcases Nat.eq_zero_or_pos n with h0 | h0
        · subst h0
          obtain ⟨a3, c3, hcut, HR⟩ := main 0 rfl
          clear main
          go_wp2
          all_goals (go_ret; exact HR.out)
        · have n1 : (0 : Int) < n := by omega
          obtain ⟨a3, c3, hcut, HR⟩ := main 0 rfl
          clear main
          go_wp2
          all_goals (first | (go_ret; exact HR.out) | (exfalso; omega) | trace_state)
      · clear hj
        obtain ⟨a3, c3, hcut, HR⟩ := main x.a g3.symm
        clear main g3
        go_wp2
        all_goals (first | (go_ret; exact HR.out) | (exfalso; omega) | trace_state)
      · clear hj
        subst g3
        obtain ⟨a3, c3, hcut, HR⟩ := main j rfl
        clear main
        go_wp2
        all_goals (first | (go_ret; exact HR.out) | (exfalso; omega) | trace_state)
    · have h3 : (x.k == 3) = false := by simp; exact k3
      by_cases k4 : x.k = 4
      · have h4 : (x.k == 4) = true := by simp; exact k4
        by_cases hn0 : n = 0
        · have HR := hid (plain.out (by unfold spoilL; rw [if_neg k5, if_neg k3, if_neg (fun h => h.2 (HNE.out.1 hn0))]))
          clear k3 k4 k5 HOW HNE plain
          subst hn0
          go_wp2
          all_goals (go_ret; exact HR.out)
        · obtain ⟨z1, z2, z3⟩ := place_eq n x.a (by omega) (by omega)
          have HE : Hd (spoilL b x = b.set (gPlace n x.a) (255 - b.getD (gPlace n x.a) 0)) := hid (by
            unfold spoilL; rw [if_neg k5, if_neg k3, if_pos ⟨k4, fun h => hn0 (HNE.out.2 h)⟩, HBL.out])
          have hgp : (0 ≤ x.a.tmod n ∧ x.a.tmod n = (gPlace n x.a : Nat)) ∨ (x.a.tmod n < 0 ∧ x.a.tmod n + n = (gPlace n x.a : Nat)) := by
            have h5 : 0 ≤ x.a % (n : Int) := Int.emod_nonneg _ (by omega)
            have e : ((gPlace n x.a : Nat) : Int) = x.a % n := by unfold gPlace; omega
            rw [e]
            have h4 : (x.a.tmod n).natAbs < n := by
              rw [Int.natAbs_tmod]; exact Nat.mod_lt _ (by simp; omega)
            have e2 : x.a.tmod n = x.a - n * x.a.tdiv n := by have := Int.tmod_add_mul_tdiv x.a n; omega
            rcases Int.lt_or_le (x.a.tmod n) 0 with h | h
            · refine .inr ⟨h, ?_⟩
              have : (x.a.tmod n + n) % n = x.a % n := by rw [Int.add_emod_right, e2, Int.sub_mul_emod_self_left]
              rw [← this, Int.emod_eq_of_lt (by omega) (by omega)]
            · refine .inl ⟨h, ?_⟩
              have : (x.a.tmod n) % n = x.a % n := by rw [e2, Int.sub_mul_emod_self_left]
              rw [← this, Int.emod_eq_of_lt (by omega) (by omega)]
          have hnb : -(n : Int) < x.a.tmod n ∧ x.a.tmod n < n := by
            have h4 : (x.a.tmod n).natAbs < n := by
              rw [Int.natAbs_tmod]; exact Nat.mod_lt _ (by simp; omega)
            omega
          generalize gPlace n x.a = j at *
          obtain ⟨g, rfl, hg⟩ := own_head HOW.out (by omega)
          have HC := hid (getD_lt HB.out j)
          have hc : w2.cell? ⟨g, j, none⟩ = some (.int .u8 (b.getD j 0 : Nat)) := by
            rw [HOW.out.1.cellAt j (by omega), ← u8s_getD b j (by rw [HBL.out]; exact z3), List.getD, List.getElem?_eq_getElem (by rw [u8s_length, HBL.out]; exact z3)]; rfl
          have hf : w2.frozen? ⟨g, j, none⟩ = false := HOW.out.1.frozenAt _
          have HST := hid (HOW.out.1.stored j (.int .u8 (255 - b.getD j 0 : Nat)))
          have HR : Hd (SpoilRet w (spoilL b x) (.returned (.slice (some ⟨g, 0, none⟩) n c2)) (w2.setCell ⟨g, j, none⟩ (.int .u8 (255 - b.getD j 0 : Nat)))) := hid (by
            have hlen : (b.set j (255 - b.getD j 0)).length = n := by rw [List.length_set, HBL.out]
            have hu : (u8s b).set j (.int .u8 (255 - b.getD j 0 : Nat)) = u8s (b.set j (255 - b.getD j 0)) := by simp [u8s, List.map_set]
            have ho : Own (fun i => W.heap.size ≤ i) (w2.setCell ⟨g, j, none⟩ (.int .u8 (255 - b.getD j 0 : Nat))) 5 1 (.slice (some ⟨g, 0, none⟩) n c2) n (u8s (b.set j (255 - b.getD j 0))) := ⟨by rw [← hu]; exact HST.out.1, HOW.out.2⟩
            rw [HE.out]
            refine ⟨_, _, by rw [hlen], by rw [hlen]; exact (row_sl ho.row (by rw [u8s_length, hlen])).mono (fun b _ h => by omega), K2.out.trans' (keeps_set (fun k => w.heap.size ≤ k) w2 _ _ (by show w.heap.size ≤ g; omega)) (fun i hi hs => by omega)⟩)
          clear k3 k4 k5 HOW HST HE HNE plain z1 z2
          have n1 : (0 : Int) < n := by omega
          have n2 : ((n : Int) == 0) = false := by simp; omega
          have n3 : (j : Int) < n := by omega
          generalize b.getD j 0 = c at *
          have hc8 : c < 256 := HC.out
          have HX : Hd ((255 : Int) - (c : Int) = ((255 - c : Nat) : Int)) := hid (by omega)
          rcases hgp with ⟨g1, g2⟩ | ⟨g1, g2⟩
          · clear hnb
            go_wp2
            all_goals (first | (go_ret; rw [HX.out]; exact HR.out) | trace_state)
          · have g3 : wrap64 (x.a.tmod n + n) = j := by unfold wrap64; omega
            have g4 : decide (x.a.tmod n < 0) = true := by simp; exact g1
            clear hnb g2 g1
            go_wp2
            all_goals (first | (go_ret; rw [HX.out]; exact HR.out) | trace_state)
      · have h4 : (x.k == 4) = false := by simp; exact k4
        have HR := hid (plain.out (by unfold spoilL; rw [if_neg k5, if_neg k3, if_neg (fun h => k4 h.1)]))
        clear k3 k4 k5 HOW HNE plain
        go_wp2
        all_goals (go_ret; exact HR.out)

set_option maxRecDepth 100000 in set_option maxHeartbeats 1000000 in
theorem refput_any (v : Value) (l : List Flt) (xs : List Value) (x : Flt) (ad : Option Addr) (cd : Nat) (w : World) (hrow : Row (fun b => b < w.heap.size) w 5 v l.length xs) (hone : ∀ u ∈ xs, u.oneCell' = true)
    (hcells : ∀ i y, l[i]? = some y → xs.getD (i * 5) undef = .int .i64 y.t ∧ xs.getD (i * 5 + 1) undef = .int .i64 y.n) (hm : l.length ≤ 1000000) :
    Calls Try.prog 30 #[v, .agg #[.int .i64 x.t, .int .i64 x.n, .int .i64 x.f, .int .i64 x.g, .slice ad x.d.length cd]] w fun e w' => PutPost w xs (fltCells x ad cd) l.length (putK l x) e w' := by
  obtain ⟨i0, z, hi, hz0, hz1, hz2, hz3⟩ := fl_parts
  have HCE := hid hcells; have HONE := hid hone; have HROW := hid hrow
  obtain ⟨a, cap, rfl, hcap, hcm, hel⟩ := hrow.form
  have HEL := hid hel
  unfold maxLen at hcm
  clear hcells hone hrow hel
  generalize hll : l.length = m at *
  have HLL := hid hll; clear hll
  go_enter Try.func30, Try.ntmps30
  go_upto_region 1 with fail
  generalize hW : World.alloc w _ = W
  have BX : Hd (Blk W w.heap.size #[.int .i64 x.t, .int .i64 x.n, .int .i64 x.f, .int .i64 x.g, .slice ad x.d.length cd] 59) := hid (by rw [← hW]; exact blk_new _ _ _)
  have KW : Hd (Keeps (fun _ => False) w W) := hid (by rw [← hW]; exact keeps_alloc _ _ _)
  clear hW
  go_wp2_with fail
  go_loopw [5] (fun i wr => ∃ k : Nat, i = .int .i64 k ∧ k ≤ m ∧ Hd (∀ i y, i < k → l[i]? = some y → fBefore x y = true) ∧ Hd (Drawn W wr)) (fun i _ => m - (intOf i).toNat)
  case atStart => exact ⟨0, rfl, Nat.zero_le _, hid (fun i y hi => by omega), hid (Drawn.refl _)⟩
  case round =>
    obtain ⟨k, rfl, hk, HBE, HD⟩ := hrel
    have zR : w.heap.size < W.heap.size := blk_lt BX.out
    by_cases hkm : k < m
    · obtain ⟨b, off, rfl, hb1, hb2, hcell⟩ := HEL.out (by omega)
      clear HEL
      obtain ⟨y, hy⟩ : ∃ y, l[k]? = some y := ⟨l[k]'(by rw [HLL.out]; exact hkm), List.getElem?_eq_getElem _⟩
      obtain ⟨t0, t1⟩ := HCE.out k y hy
      have HXK := hid hy
      have o0 : wr.cell? ⟨w.heap.size, 0, none⟩ = some (.int .i64 x.t) := HD.out.cell (blk_cell BX.out 0)
      have o1 : wr.cell? ⟨w.heap.size, 1, none⟩ = some (.int .i64 x.n) := HD.out.cell (blk_cell BX.out 1)
      have f0 : wr.cell? ⟨b, off + k * 5, none⟩ = some (.int .i64 y.t) := HD.out.cell (keep_cell KW.out (fun h => h) ((hcell (k * 5) (by omega)).trans (congrArg some t0)))
      have f1 : wr.cell? ⟨b, off + k * 5 + 1, none⟩ = some (.int .i64 y.n) := HD.out.cell (keep_cell KW.out (fun h => h) ((hcell (k * 5 + 1) (by omega)).trans (congrArg some t1)))
      have k1 : (k : Int) < m := by omega
      have k2 : (0 : Int) ≤ k := by omega
      clear t0 t1 hy
      by_cases e1 : y.t < x.t
      · have d1 : decide (y.t < x.t) = true := by simp; exact e1
        have HF : Hd (fBefore x y = true) := hid (by simp [fBefore, e1])
        clear e1
        go_upto_region 2 with fail
        go_quiet (fail)
        go_wp2
        go_roundw
        case rel =>
          refine ⟨k + 1, by go_num, by omega, hid (fun i y' hi hy' => ?_), hid (by first | exact HD.out | exact drawn_n HD.out _ | exact drawn_1 HD.out)⟩
          rcases Nat.lt_or_ge i k with h | h
          · exact HBE.out i y' h hy'
          · obtain rfl : i = k := by omega
            rw [HXK.out] at hy'; injection hy' with hy'; subst hy'
            exact HF.out
        case measure => simp [intOf]; omega
      · have d1 : decide (y.t < x.t) = false := by simp; omega
        by_cases e2 : y.t = x.t
        · have d2 : (y.t == x.t) = true := by simp; exact e2
          by_cases e3 : y.n ≤ x.n
          · have d3 : decide (y.n ≤ x.n) = true := by simp; exact e3
            have HF : Hd (fBefore x y = true) := hid (by simp [fBefore, e2, e3])
            clear e1 e2 e3
            go_upto_region 2 with fail
            go_quiet (fail)
            go_wp2
            go_roundw
            case rel =>
              refine ⟨k + 1, by go_num, by omega, hid (fun i y' hi hy' => ?_), hid (by first | exact HD.out | exact drawn_n HD.out _ | exact drawn_1 HD.out)⟩
              rcases Nat.lt_or_ge i k with h | h
              · exact HBE.out i y' h hy'
              · obtain rfl : i = k := by omega
                rw [HXK.out] at hy'; injection hy' with hy'; subst hy'
                exact HF.out
            case measure => simp [intOf]; omega
          · have d3 : decide (y.n ≤ x.n) = false := by simp; omega
            have HF : Hd (fBefore x y = false) := hid (by simp [fBefore, e2, e3])
            clear e1 e2 e3
            have HPK : Hd (putK l x = k) := hid (putK_at (by rw [HLL.out]; omega) HBE.out (fun y' hy' => by rw [HXK.out] at hy'; injection hy' with hy'; subst hy'; exact HF.out))
            clear HBE
            go_upto_region 2 with fail
            go_quiet (fail)
            go_upto_region 4 with fail
            clear hcell o0 o1 f0 f1
            have HR1 := hid (HROW.out.keep (KW.out.trans (drawn_keeps _ HD.out)) (fun _ _ _ h => h))
            obtain ⟨a1, c1, hcut1, hr1⟩ := run_cut_to (P := Try.prog) (t := 26) Try.underlying26 hi hz1 HR1.out (hh := (k : Int)) k rfl hk
            obtain ⟨a2, c2, hcut2, hr2⟩ := run_cut_from (P := Try.prog) (t := 26) Try.underlying26 hi hz1 HR1.out (lo := (k : Int)) k rfl hk
            have Q1 := hid hr1; have Q2 := hid hr2
            have ONE1 : Hd (∀ u ∈ (xs.drop (k * 5)).take ((m - k) * 5), u.oneCell' = true) := hid (fun u hu => HONE.out u (List.mem_of_mem_drop (List.mem_of_mem_take hu)))
            have ONE0 : Hd (∀ u ∈ xs.take (k * 5), u.oneCell' = true) := hid (fun u hu => HONE.out u (List.mem_of_mem_take hu))
            have BXR := hid (blk_keep BX.out (drawn_keeps (fun _ => False) HD.out) (fun h => h))
            have KWR : Hd (Keeps (fun _ => False) w wr) := hid (KW.out.trans (drawn_keeps _ HD.out))
            have HNIL : Hd (Own (fun b => wr.heap.size ≤ b) wr 59 5 (.slice none 0 0) 0 []) := hid (Own.nil _ _ _ _)
            clear hr1 hr2 HR1 HD
            have zr := KWR.out.size; have zb := blk_lt BXR.out
            go_wp2_with (at_builtin; refine wpList_append_row rfl (.tmp 43) (.tmp 46) 26 rfl 59 i0 z 5 56 Try.underlying26 hi hz0 hz1 hz2 hz3 (by decide) _ (fun b => b < w.heap.size) (.slice none 0 0) _ 0 [] rfl HNIL.out k _ rfl Q1.out ONE0.out (by simp [maxLen]; omega) (by omega) ?_)
            intro a5 c5 w5 hown5 hk5; try intro _
            try simp only [Nat.zero_add, List.nil_append] at hown5
            have HO5 : Hd (Own (fun b => wr.heap.size ≤ b) w5 59 5 (.slice a5 k c5) k (xs.take (k * 5))) := hid (hown5.mono (fun b _ h => by first | exact h | (rcases h with h | h <;> exact h)))
            have K5 : Hd (Keeps (fun _ => False) wr w5) := hid (Keeps.trans' (S := fun _ => False) (by repeat (first | (with_reducible assumption) | (with_reducible exact Keeps.refl _ _) | (with_reducible apply Keeps.drewN) | (with_reducible apply Keeps.drew) | (with_reducible apply Keeps.alloc) | refine Keeps.setCell ?_ (by first | (simp; done) | (simp; omega)) _)) hk5 (fun i hi h => by have := Nat.lt_of_lt_of_le hi h; omega))
            have BX5 := hid (blk_keep BXR.out K5.out (fun h => h))
            have z5 := K5.out.size
            clear hown5 hk5 hcut1
            have b0 : w5.cell? ⟨w.heap.size, 0, none⟩ = some (.int .i64 x.t) := blk_cell BX5.out 0
            have b1 : w5.cell? ⟨w.heap.size, 1, none⟩ = some (.int .i64 x.n) := blk_cell BX5.out 1
            have b2 : w5.cell? ⟨w.heap.size, 2, none⟩ = some (.int .i64 x.f) := blk_cell BX5.out 2
            have b3 : w5.cell? ⟨w.heap.size, 3, none⟩ = some (.int .i64 x.g) := blk_cell BX5.out 3
            have b4 : w5.cell? ⟨w.heap.size, 4, none⟩ = some (.slice ad x.d.length cd) := blk_cell BX5.out 4
            go_wp2_with (at_builtin; refine wpList_append_row rfl (.tmp 48) (.tmp 50) 26 rfl 59 i0 z 5 56 Try.underlying26 hi hz0 hz1 hz2 hz3 (by decide) _ (fun _ => True) (.slice a5 k c5) _ k _ rfl (HO5.out.alloc _) 1 (fltCells x ad cd) rfl (by exact lit_row _ _ _ 1 5 rfl (by decide)) (by intro u hu; simp [fltCells] at hu; rcases hu with rfl | rfl | rfl | rfl | rfl <;> rfl) (by simp [maxLen]; omega) (by omega) ?_)
            intro a6 c6 w6 hown6 hk6; try intro _
            have HO6 : Hd (Own (fun b => wr.heap.size ≤ b) w6 59 5 (.slice a6 (k + 1) c6) (k + 1) (xs.take (k * 5) ++ fltCells x ad cd)) := hid (hown6.mono (fun b _ h => by rcases h with h | h <;> (try simp at h) <;> omega))
            have K6 : Hd (Keeps (fun _ => False) wr w6) := hid ((K5.out.alloc _).trans' hk6 (fun i hi h => by omega))
            have Q26 := hid (Q2.out.keep K6.out (fun _ _ _ h => h))
            have z6 := K6.out.size
            clear hown6 hk6 b0 b1 b2 b3 b4
            go_wp2_with (at_builtin; refine wpList_append_row rfl (.tmp 52) (.tmp 55) 26 rfl 59 i0 z 5 56 Try.underlying26 hi hz0 hz1 hz2 hz3 (by decide) _ (fun b => b < w.heap.size) (.slice a6 (k + 1) c6) _ (k + 1) _ rfl HO6.out (m - k) _ rfl Q26.out ONE1.out (by simp [maxLen]; omega) (by omega) ?_)
            intro a7 c7 w7 hown7 hk7; try intro _
            have HR : Hd (PutPost w xs (fltCells x ad cd) m (putK l x) (.returned (.slice a7 (k + 1 + (m - k)) c7)) w7) := hid (by
              have e1 : k + 1 + (m - k) = m + 1 := by omega
              have e2 : (xs.drop (k * 5)).take ((m - k) * 5) = xs.drop (k * 5) := List.take_of_length_le (by rw [List.length_drop, HROW.out.1]; omega)
              have e3 := hown7
              rw [e1, e2] at e3
              try rw [← List.append_assoc] at e3
              rw [HPK.out, e1]
              exact ⟨a7, c7, rfl, e3.mono (K' := fun b => w.heap.size ≤ b) (fun b _ h => by rcases h with h | h <;> omega), KWR.out.trans (K6.out.trans' hk7 (fun i hi h => by omega))⟩)
            clear hown7 hk7 HO6 HO5
            go_wp2
            go_ret
            exact HR.out
        · have d2 : (y.t == x.t) = false := by simp; exact e2
          have HF : Hd (fBefore x y = false) := hid (by simp [fBefore, e1, e2])
          clear e1 e2
          have HPK : Hd (putK l x = k) := hid (putK_at (by rw [HLL.out]; omega) HBE.out (fun y' hy' => by rw [HXK.out] at hy'; injection hy' with hy'; subst hy'; exact HF.out))
          clear HBE
          go_upto_region 2 with fail
          go_quiet (fail)
          go_upto_region 4 with fail
          clear hcell o0 o1 f0 f1
          have HR1 := hid (HROW.out.keep (KW.out.trans (drawn_keeps _ HD.out)) (fun _ _ _ h => h))
          obtain ⟨a1, c1, hcut1, hr1⟩ := run_cut_to (P := Try.prog) (t := 26) Try.underlying26 hi hz1 HR1.out (hh := (k : Int)) k rfl hk
          obtain ⟨a2, c2, hcut2, hr2⟩ := run_cut_from (P := Try.prog) (t := 26) Try.underlying26 hi hz1 HR1.out (lo := (k : Int)) k rfl hk
          have Q1 := hid hr1; have Q2 := hid hr2
          have ONE1 : Hd (∀ u ∈ (xs.drop (k * 5)).take ((m - k) * 5), u.oneCell' = true) := hid (fun u hu => HONE.out u (List.mem_of_mem_drop (List.mem_of_mem_take hu)))
          have ONE0 : Hd (∀ u ∈ xs.take (k * 5), u.oneCell' = true) := hid (fun u hu => HONE.out u (List.mem_of_mem_take hu))
          have BXR := hid (blk_keep BX.out (drawn_keeps (fun _ => False) HD.out) (fun h => h))
          have KWR : Hd (Keeps (fun _ => False) w wr) := hid (KW.out.trans (drawn_keeps _ HD.out))
          have HNIL : Hd (Own (fun b => wr.heap.size ≤ b) wr 59 5 (.slice none 0 0) 0 []) := hid (Own.nil _ _ _ _)
          clear hr1 hr2 HR1 HD
          have zr := KWR.out.size; have zb := blk_lt BXR.out
          go_wp2_with (at_builtin; refine wpList_append_row rfl (.tmp 43) (.tmp 46) 26 rfl 59 i0 z 5 56 Try.underlying26 hi hz0 hz1 hz2 hz3 (by decide) _ (fun b => b < w.heap.size) (.slice none 0 0) _ 0 [] rfl HNIL.out k _ rfl Q1.out ONE0.out (by simp [maxLen]; omega) (by omega) ?_)
          intro a5 c5 w5 hown5 hk5; try intro _
          try simp only [Nat.zero_add, List.nil_append] at hown5
          have HO5 : Hd (Own (fun b => wr.heap.size ≤ b) w5 59 5 (.slice a5 k c5) k (xs.take (k * 5))) := hid (hown5.mono (fun b _ h => by first | exact h | (rcases h with h | h <;> exact h)))
          have K5 : Hd (Keeps (fun _ => False) wr w5) := hid (Keeps.trans' (S := fun _ => False) (by repeat (first | (with_reducible assumption) | (with_reducible exact Keeps.refl _ _) | (with_reducible apply Keeps.drewN) | (with_reducible apply Keeps.drew) | (with_reducible apply Keeps.alloc) | refine Keeps.setCell ?_ (by first | (simp; done) | (simp; omega)) _)) hk5 (fun i hi h => by have := Nat.lt_of_lt_of_le hi h; omega))
          have BX5 := hid (blk_keep BXR.out K5.out (fun h => h))
          have z5 := K5.out.size
          clear hown5 hk5 hcut1
          have b0 : w5.cell? ⟨w.heap.size, 0, none⟩ = some (.int .i64 x.t) := blk_cell BX5.out 0
          have b1 : w5.cell? ⟨w.heap.size, 1, none⟩ = some (.int .i64 x.n) := blk_cell BX5.out 1
          have b2 : w5.cell? ⟨w.heap.size, 2, none⟩ = some (.int .i64 x.f) := blk_cell BX5.out 2
          have b3 : w5.cell? ⟨w.heap.size, 3, none⟩ = some (.int .i64 x.g) := blk_cell BX5.out 3
          have b4 : w5.cell? ⟨w.heap.size, 4, none⟩ = some (.slice ad x.d.length cd) := blk_cell BX5.out 4
          go_wp2_with (at_builtin; refine wpList_append_row rfl (.tmp 48) (.tmp 50) 26 rfl 59 i0 z 5 56 Try.underlying26 hi hz0 hz1 hz2 hz3 (by decide) _ (fun _ => True) (.slice a5 k c5) _ k _ rfl (HO5.out.alloc _) 1 (fltCells x ad cd) rfl (by exact lit_row _ _ _ 1 5 rfl (by decide)) (by intro u hu; simp [fltCells] at hu; rcases hu with rfl | rfl | rfl | rfl | rfl <;> rfl) (by simp [maxLen]; omega) (by omega) ?_)
          intro a6 c6 w6 hown6 hk6; try intro _
          have HO6 : Hd (Own (fun b => wr.heap.size ≤ b) w6 59 5 (.slice a6 (k + 1) c6) (k + 1) (xs.take (k * 5) ++ fltCells x ad cd)) := hid (hown6.mono (fun b _ h => by rcases h with h | h <;> (try simp at h) <;> omega))
          have K6 : Hd (Keeps (fun _ => False) wr w6) := hid ((K5.out.alloc _).trans' hk6 (fun i hi h => by omega))
          have Q26 := hid (Q2.out.keep K6.out (fun _ _ _ h => h))
          have z6 := K6.out.size
          clear hown6 hk6 b0 b1 b2 b3 b4
          go_wp2_with (at_builtin; refine wpList_append_row rfl (.tmp 52) (.tmp 55) 26 rfl 59 i0 z 5 56 Try.underlying26 hi hz0 hz1 hz2 hz3 (by decide) _ (fun b => b < w.heap.size) (.slice a6 (k + 1) c6) _ (k + 1) _ rfl HO6.out (m - k) _ rfl Q26.out ONE1.out (by simp [maxLen]; omega) (by omega) ?_)
          intro a7 c7 w7 hown7 hk7; try intro _
          have HR : Hd (PutPost w xs (fltCells x ad cd) m (putK l x) (.returned (.slice a7 (k + 1 + (m - k)) c7)) w7) := hid (by
            have e1 : k + 1 + (m - k) = m + 1 := by omega
            have e2 : (xs.drop (k * 5)).take ((m - k) * 5) = xs.drop (k * 5) := List.take_of_length_le (by rw [List.length_drop, HROW.out.1]; omega)
            have e3 := hown7
            rw [e1, e2] at e3
            try rw [← List.append_assoc] at e3
            rw [HPK.out, e1]
            exact ⟨a7, c7, rfl, e3.mono (K' := fun b => w.heap.size ≤ b) (fun b _ h => by rcases h with h | h <;> omega), KWR.out.trans (K6.out.trans' hk7 (fun i hi h => by omega))⟩)
          clear hown7 hk7 HO6 HO5
          go_wp2
          go_ret
          exact HR.out
    · have hkm2 : k = m := by omega
      have HPK : Hd (putK l x = k) := hid (putK_at (by rw [HLL.out]; omega) HBE.out (fun y hy => by rw [List.getElem?_eq_none (by rw [HLL.out]; omega)] at hy; cases hy))
      have k0 : ¬ ((k : Int) < m) := by omega
      clear hkm hkm2 HBE HEL
      go_upto_region 2 with fail
      go_quiet (fail)
      go_upto_region 4 with fail
      have HR1 := hid (HROW.out.keep (KW.out.trans (drawn_keeps _ HD.out)) (fun _ _ _ h => h))
      obtain ⟨a1, c1, hcut1, hr1⟩ := run_cut_to (P := Try.prog) (t := 26) Try.underlying26 hi hz1 HR1.out (hh := (k : Int)) k rfl hk
      obtain ⟨a2, c2, hcut2, hr2⟩ := run_cut_from (P := Try.prog) (t := 26) Try.underlying26 hi hz1 HR1.out (lo := (k : Int)) k rfl hk
      have Q1 := hid hr1; have Q2 := hid hr2
      have ONE1 : Hd (∀ u ∈ (xs.drop (k * 5)).take ((m - k) * 5), u.oneCell' = true) := hid (fun u hu => HONE.out u (List.mem_of_mem_drop (List.mem_of_mem_take hu)))
      have ONE0 : Hd (∀ u ∈ xs.take (k * 5), u.oneCell' = true) := hid (fun u hu => HONE.out u (List.mem_of_mem_take hu))
      have BXR := hid (blk_keep BX.out (drawn_keeps (fun _ => False) HD.out) (fun h => h))
      have KWR : Hd (Keeps (fun _ => False) w wr) := hid (KW.out.trans (drawn_keeps _ HD.out))
      have HNIL : Hd (Own (fun b => wr.heap.size ≤ b) wr 59 5 (.slice none 0 0) 0 []) := hid (Own.nil _ _ _ _)
      clear hr1 hr2 HR1 HD
      have zr := KWR.out.size; have zb := blk_lt BXR.out
      go_wp2_with (at_builtin; refine wpList_append_row rfl (.tmp 43) (.tmp 46) 26 rfl 59 i0 z 5 56 Try.underlying26 hi hz0 hz1 hz2 hz3 (by decide) _ (fun b => b < w.heap.size) (.slice none 0 0) _ 0 [] rfl HNIL.out k _ rfl Q1.out ONE0.out (by simp [maxLen]; omega) (by omega) ?_)
      intro a5 c5 w5 hown5 hk5; try intro _
      try simp only [Nat.zero_add, List.nil_append] at hown5
      have HO5 : Hd (Own (fun b => wr.heap.size ≤ b) w5 59 5 (.slice a5 k c5) k (xs.take (k * 5))) := hid (hown5.mono (fun b _ h => by first | exact h | (rcases h with h | h <;> exact h)))
      have K5 : Hd (Keeps (fun _ => False) wr w5) := hid (Keeps.trans' (S := fun _ => False) (by repeat (first | (with_reducible assumption) | (with_reducible exact Keeps.refl _ _) | (with_reducible apply Keeps.drewN) | (with_reducible apply Keeps.drew) | (with_reducible apply Keeps.alloc) | refine Keeps.setCell ?_ (by first | (simp; done) | (simp; omega)) _)) hk5 (fun i hi h => by have := Nat.lt_of_lt_of_le hi h; omega))
      have BX5 := hid (blk_keep BXR.out K5.out (fun h => h))
      have z5 := K5.out.size
      clear hown5 hk5 hcut1
      have b0 : w5.cell? ⟨w.heap.size, 0, none⟩ = some (.int .i64 x.t) := blk_cell BX5.out 0
      have b1 : w5.cell? ⟨w.heap.size, 1, none⟩ = some (.int .i64 x.n) := blk_cell BX5.out 1
      have b2 : w5.cell? ⟨w.heap.size, 2, none⟩ = some (.int .i64 x.f) := blk_cell BX5.out 2
      have b3 : w5.cell? ⟨w.heap.size, 3, none⟩ = some (.int .i64 x.g) := blk_cell BX5.out 3
      have b4 : w5.cell? ⟨w.heap.size, 4, none⟩ = some (.slice ad x.d.length cd) := blk_cell BX5.out 4
      go_wp2_with (at_builtin; refine wpList_append_row rfl (.tmp 48) (.tmp 50) 26 rfl 59 i0 z 5 56 Try.underlying26 hi hz0 hz1 hz2 hz3 (by decide) _ (fun _ => True) (.slice a5 k c5) _ k _ rfl (HO5.out.alloc _) 1 (fltCells x ad cd) rfl (by exact lit_row _ _ _ 1 5 rfl (by decide)) (by intro u hu; simp [fltCells] at hu; rcases hu with rfl | rfl | rfl | rfl | rfl <;> rfl) (by simp [maxLen]; omega) (by omega) ?_)
      intro a6 c6 w6 hown6 hk6; try intro _
      have HO6 : Hd (Own (fun b => wr.heap.size ≤ b) w6 59 5 (.slice a6 (k + 1) c6) (k + 1) (xs.take (k * 5) ++ fltCells x ad cd)) := hid (hown6.mono (fun b _ h => by rcases h with h | h <;> (try simp at h) <;> omega))
      have K6 : Hd (Keeps (fun _ => False) wr w6) := hid ((K5.out.alloc _).trans' hk6 (fun i hi h => by omega))
      have Q26 := hid (Q2.out.keep K6.out (fun _ _ _ h => h))
      have z6 := K6.out.size
      clear hown6 hk6 b0 b1 b2 b3 b4
      go_wp2_with (at_builtin; refine wpList_append_row rfl (.tmp 52) (.tmp 55) 26 rfl 59 i0 z 5 56 Try.underlying26 hi hz0 hz1 hz2 hz3 (by decide) _ (fun b => b < w.heap.size) (.slice a6 (k + 1) c6) _ (k + 1) _ rfl HO6.out (m - k) _ rfl Q26.out ONE1.out (by simp [maxLen]; omega) (by omega) ?_)
      intro a7 c7 w7 hown7 hk7; try intro _
      have HR : Hd (PutPost w xs (fltCells x ad cd) m (putK l x) (.returned (.slice a7 (k + 1 + (m - k)) c7)) w7) := hid (by
        have e1 : k + 1 + (m - k) = m + 1 := by omega
        have e2 : (xs.drop (k * 5)).take ((m - k) * 5) = xs.drop (k * 5) := List.take_of_length_le (by rw [List.length_drop, HROW.out.1]; omega)
        have e3 := hown7
        rw [e1, e2] at e3
        try rw [← List.append_assoc] at e3
        rw [HPK.out, e1]
        exact ⟨a7, c7, rfl, e3.mono (K' := fun b => w.heap.size ≤ b) (fun b _ h => by rcases h with h | h <;> omega), KWR.out.trans (K6.out.trans' hk7 (fun i hi h => by omega))⟩)
      clear hown7 hk7 HO6 HO5
      go_wp2
      go_ret
      exact HR.out
theorem refput_fl (K : Nat → Prop) (v : Value) (l : List Flt) (x : Flt) (ad : Option Addr) (cd : Nat) (w : World) (hl : Fls K w v l) (hx : Sl K w (.slice ad x.d.length cd) (u8s x.d)) (hm : l.length ≤ 1000000) :
    Calls Try.prog 30 #[v, .agg #[.int .i64 x.t, .int .i64 x.n, .int .i64 x.f, .int .i64 x.g, .slice ad x.d.length cd]] w fun e w' => PutFl K w l x e w' := by
  obtain ⟨xs, hrow, hcells⟩ := hl
  refine (refput_any v l xs x ad cd w (hrow.mono (fun b h _ => h)) (fl_one (by have := hrow.1; omega) hcells) (fun i y hi => ⟨(hcells i y hi).1, (hcells i y hi).2.1⟩) hm).mono ?_
  rintro e w' ⟨a, c, rfl, ho, hk⟩
  have hlen := putL_length l x
  refine ⟨a, c, _, rfl, by rw [hlen]; exact ho, fun i y hy => ?_, hk⟩
  have hsz : ∀ {c : Nat → Value} {x : Flt}, FlCells K w c x → FlCells (fun b => K b ∧ b < w.heap.size) w' c x := fun h =>
    (FlCells.keep ⟨h.1, h.2.1, h.2.2.1, h.2.2.2.1, h.2.2.2.2.mono (K' := fun b => K b ∧ b < w.heap.size) (fun b h1 h2 => ⟨h2, h1⟩)⟩ hk (fun _ _ _ h => h))
  have hg : ∀ j, j < 5 → _ := fun j hj => getD_put (xs := xs) (cx := fltCells x ad cd) (k := putK l x) (m := l.length) (i := i) (j := j) hrow.1 rfl (putK_le l x) hj
  rcases putL_get hy with ⟨h1, h2⟩ | ⟨h1, rfl⟩ | ⟨h1, h2⟩
  · exact (hsz (hcells i y h2)).congr (fun j hj => by rw [hg j hj, if_pos h1])
  · exact (hsz (c := fun j => (fltCells x ad cd).getD j undef) ⟨rfl, rfl, rfl, rfl, hx⟩).congr (fun j hj => by rw [hg j hj, if_neg (by omega), if_pos h1])
  · exact (hsz (hcells (i - 1) y h2)).congr (fun j hj => by rw [hg j hj, if_neg (by omega), if_neg (by omega)])
end Go.Proofs.Ytjapmpolagblaaa
