/- File: Answer, Cut. -/
import Derived.Test.YtgeicbjlichdgaaDoorFileB
namespace Go.Proofs.YtgeicbjlichdgaaDoor
open Go.RowKit
attribute [local go_sem ↓] Go.wp_at_zero Go.wp_at_succ
theorem flat_len {α : Type} (f : α → List Value) (s : Nat) (hf : ∀ x, (f x).length = s) (l : List α) : (l.flatMap f).length = l.length * s := by
  induction l with
  | nil => simp
  | cons x l ih => rw [List.flatMap_cons, List.length_append, ih, hf, List.length_cons, Nat.add_mul]; omega
theorem flat_get {α : Type} (f : α → List Value) (s : Nat) (hf : ∀ x, (f x).length = s) : ∀ (l : List α) (k : Nat) (x : α) (j : Nat), l[k]? = some x → j < s → (l.flatMap f)[k * s + j]? = (f x)[j]? := by
  intro l
  induction l with
  | nil => intro k x j h; simp at h
  | cons y l ih =>
    intro k x j h hj
    rw [List.flatMap_cons]
    cases k with
    | zero => simp at h; subst h; rw [Nat.zero_mul, Nat.zero_add, List.getElem?_append_left (by rw [hf]; exact hj)]
    | succ k =>
      rw [List.getElem?_append_right (by rw [hf, Nat.add_mul]; omega), hf]
      rw [show (k + 1) * s + j - s = k * s + j by rw [Nat.add_mul]; omega]
      exact ih k x j (by simpa using h) hj
def gpC (g : Int × Int) : List Value := [.int .i64 g.1, .int .i64 g.2]
def gpX (l : List (Int × Int)) : List Value := l.flatMap gpC
theorem gpX_len (l : List (Int × Int)) : (gpX l).length = l.length * 2 := flat_len gpC 2 (fun _ => rfl) l
theorem gpX_one (l : List (Int × Int)) : ∀ u ∈ gpX l, u.oneCell' = true := by
  intro u hu
  simp only [gpX, List.mem_flatMap, gpC] at hu
  obtain ⟨g, _, hg⟩ := hu
  simp at hg
  rcases hg with rfl | rfl <;> rfl
theorem gpX_app (l m : List (Int × Int)) : gpX (l ++ m) = gpX l ++ gpX m := by simp [gpX]
/-- gaps: rows of two numbers -/
def Gps (K : Nat → Prop) (w : World) (v : Value) (l : List (Int × Int)) : Prop := Row K w 2 v l.length (gpX l)
theorem gps_at {K : Nat → Prop} {w : World} {a : Option Addr} {n c : Nat} {l : List (Int × Int)} (h : Gps K w (.slice a n c) l) {k : Nat} {g : Int × Int} (hk : l[k]? = some g) :
    ∃ b o, a = some ⟨b, o, none⟩ ∧ K b ∧ b < w.heap.size ∧ w.cell? ⟨b, o + k * 2, none⟩ = some (.int .i64 g.1) ∧ w.cell? ⟨b, o + k * 2 + 1, none⟩ = some (.int .i64 g.2) := by
  have hkl : k < l.length := (List.getElem?_eq_some_iff.1 hk).1
  obtain ⟨a', c', e, _, _, hel⟩ := Row.form h
  injection e with e1 e2 e3
  subst e1
  obtain ⟨b, o, ea, hK, hb, hcell⟩ := hel (by omega)
  have key : ∀ j, j < 2 → w.cell? ⟨b, o + (k * 2 + j), none⟩ = some ((gpC g).getD j undef) := fun j hj => by
    rw [hcell (k * 2 + j) (by omega), List.getD, show gpX l = l.flatMap gpC from rfl, flat_get gpC 2 (fun _ => rfl) l k g j hk hj, List.getD]
  exact ⟨b, o, ea, hK, hb, key 0 (by omega), by have := key 1 (by omega); rw [← Nat.add_assoc] at this; exact this⟩
set_option maxRecDepth 100000 in set_option maxHeartbeats 1000000 in
theorem Answer_any (v vg : Value) (b : List Nat) (gs : List (Int × Int)) (id z : Int) (w : World) (hN : Cr.Nib w) (hv : Sl (fun k => k < w.heap.size) w v (u8s b)) (hb : ∀ c ∈ b, c < 256) (hg : Gps (fun k => k < w.heap.size) w vg gs) (hgl : gs.length ≤ 1000000)
    (hm : b.length ≤ 65538) :
    Calls Tryd.prog 18 #[.int .i64 id, v, vg, .int .i64 z] w fun e w' => SgRet (fun k => w.heap.size ≤ k) w (answerL id b gs z) e w' := by
  obtain ⟨i0, zz, hi, hz0, hz1, hz2, hz3⟩ := sg_parts
  have HN := hid hN; have HB := hid hb; have HV := hid hv; have HG := hid hg
  obtain ⟨av, cv, rfl, _⟩ := hv.bytes
  obtain ⟨ag, cg, rfl, _⟩ := Row.form hg
  clear hN hb hv hg
  obtain ⟨A, hA⟩ : ∃ A, answerL id b gs z = A := ⟨_, rfl⟩
  rw [hA]
  have HA := hid hA; clear hA
  obtain ⟨F, hF⟩ : ∃ F, fitsL b z = F := ⟨_, rfl⟩
  have HF := hid hF
  have HFZ : Hd (F = 0 → (1 ≤ z ∧ z ≤ 256) ∧ b.length ≤ 65536) := hid (fun h => by rw [← hF] at h; unfold fitsL at h; split at h <;> (try split at h) <;> omega)
  clear hF
  generalize hbl : b.length = n at *
  have HBL := hid hbl; clear hbl
  generalize hll : gs.length = m at *
  have HLL := hid hll; clear hll
  go_enter Tryd.func18, Tryd.ntmps18
  go_wp2_with fail
  refine (fits_any _ b z _ _ HV.out).mono ?_
  rw [HF.out]
  rintro e wx ⟨rfl, rfl⟩
  have hnil : ∀ (h : F ≠ 0 ∨ gs = []), SgRet (fun k => w.heap.size ≤ k) w A (.returned (.slice none 0 0)) w := fun h => by
    have e : A = [] := by rw [← HA.out]; unfold answerL; rw [HF.out, if_pos h]
    rw [e]
    exact ⟨none, 0, 0, rfl, rfl, SgP.nil _ _ _, Keeps.refl _ _⟩
  have HNIL := hid hnil; clear hnil
  by_cases hF0 : F = 0
  · have d0 : (F != 0) = false := by simp; exact hF0
    obtain ⟨hz12, hn6⟩ := HFZ.out hF0
    have HF0 := hid hF0; clear hF0
    by_cases hm0 : m = 0
    · have d1 : ((m : Int) == 0) = true := by simp; omega
      have HRET := hid (HNIL.out (.inr (List.eq_nil_of_length_eq_zero (by rw [HLL.out]; exact hm0))))
      clear hm0
      go_wp2
      go_ret
      exact HRET.out
    · have d1 : ((m : Int) == 0) = false := by simp; omega
      by_cases hn0 : n = 0
      · have d2 : ((n : Int) == 0) = true := by simp; omega
        have HRET : Hd (A = [⟨id, 0, 0, 0, []⟩]) := hid (by
          rw [← HA.out]; unfold answerL
          rw [HF.out, if_neg (by rw [HF0.out]; intro h; rcases h with h | h; exact h rfl; rw [h] at HLL; exact hm0 HLL.out.symm), if_pos (List.eq_nil_of_length_eq_zero (by rw [HBL.out]; exact hn0))])
        clear hm0 hn0
        go_wp2_with fail
        refine (Cr.Sum_any (fun _ => True) _ [] _ HN.out (Sl.nil _ _) (by simp) (by simp)).mono ?_
        rw [show Cr.crc [] = 0 from by kernel_rfl]
        rintro e wx ⟨rfl, rfl⟩
        go_wp2
        go_ret
        rw [HRET.out]
        refine ⟨_, 1, 1, rfl, rfl, ⟨[.int .i64 id, .int .i64 0, .int .i64 0, .int .u32 0, .slice none 0 0], ⟨World.ownsRow_lit (base := 0) (e := 44) w #[.int .i64 id, .int .i64 0, .int .i64 0, .int .u32 0, .slice none 0 0] 1 (Nat.zero_le _) (by decide) rfl, fun _ h => h⟩, fun b hb => by injection hb with hb; simp at hb; omega, SgC.one (x := ⟨id, 0, 0, 0, []⟩) (Sl.nil _ _)⟩, keeps_alloc _ _ _⟩
      · have d2 : ((n : Int) == 0) = false := by simp; omega
        have HRET : Hd (A = gs.flatMap (gapR id b z)) := hid (by
          rw [← HA.out]; unfold answerL
          rw [HF.out, if_neg (by rw [HF0.out]; intro h; rcases h with h | h; exact h rfl; rw [h] at HLL; exact hm0 HLL.out.symm), if_neg (fun h => by rw [h] at HBL; exact hn0 HBL.out.symm)])
        clear hm0 hn0 HNIL
        go_wp2_with fail
        go_loopw [9, 30] (fun lv iv wr => ∃ (k : Nat) (a : Option Addr) (acc : List Seg) (c : Nat), lv = .slice a acc.length c ∧ iv = .int .i64 k ∧ k ≤ m ∧ Hd (acc = (gs.take k).flatMap (gapR id b z)) ∧ Hd (SgP (fun k => w.heap.size ≤ k) w.heap.size wr (.slice a acc.length c) acc) ∧ Hd (Keeps (fun _ => False) w wr)) (fun _ x _ => m - (intOf x).toNat)
        case atStart => exact ⟨0, none, [], 0, rfl, rfl, Nat.zero_le _, hid (by simp), hid (SgP.nil _ _ _), hid (Keeps.refl _ _)⟩
        case round =>
          obtain ⟨k, a, acc, c, rfl, rfl, hk, HE, HP, HK⟩ := hrel
          have hal : acc.length ≤ k * n := by
            have h := flat_len_le (gapR id b z) b.length (gapR_len id b z) (gs.take k)
            rw [← HE.out, List.length_take, HLL.out, HBL.out, Nat.min_eq_left hk] at h; exact h
          by_cases hkm : k < m
          · obtain ⟨g, hgk⟩ : ∃ g, gs[k]? = some g := ⟨gs[k]'(by rw [HLL.out]; exact hkm), List.getElem?_eq_getElem _⟩
            obtain ⟨bb, ob, rfl, hb1, hb2, y0, y1⟩ := gps_at HG.out hgk
            have f0 : wr.cell? ⟨bb, ob + k * 2, none⟩ = some (.int .i64 g.1) := keep_cell HK.out (fun h => h) y0
            have f1 : wr.cell? ⟨bb, ob + k * 2 + 1, none⟩ = some (.int .i64 g.2) := keep_cell HK.out (fun h => h) y1
            have HE2 : Hd (acc ++ gapR id b z g = (gs.take (k + 1)).flatMap (gapR id b z)) := hid (by
              rw [List.take_add_one, hgk, List.flatMap_append, ← HE.out]; simp)
            have hgl2 : (gapR id b z g).length ≤ n := by have h := gapR_len id b z g; rw [HBL.out] at h; exact h
            have k1 : (k : Int) < m := by omega
            have k2 : (0 : Int) ≤ k := by omega
            have hkn : k * n ≤ 1000000 * 65538 := Nat.mul_le_mul (by omega) hm
            have zr := HK.out.size
            clear y0 y1 hgk
            go_upto_region 9 with fail
            generalize hW : World.alloc wr _ = W1
            have BG : Hd (Blk W1 wr.heap.size #[.int .i64 g.1, .int .i64 g.2] 52) := hid (by rw [← hW]; exact blk_new _ _ _)
            have KW : Hd (Keeps (fun _ => False) wr W1) := hid (by rw [← hW]; exact keeps_alloc _ _ _)
            clear hW f0 f1
            have zW := KW.out.size
            have HV1 := hid (HV.out.keep (HK.out.trans KW.out) (fun _ _ _ h => h)); have HN1 : Hd (Cr.Nib W1) := hid (HN.out.keep (HK.out.trans KW.out) (fun h => h))
            have o0 : W1.cell? ⟨wr.heap.size, 0, none⟩ = some (.int .i64 g.1) := blk_cell BG.out 0
            have o1 : W1.cell? ⟨wr.heap.size, 1, none⟩ = some (.int .i64 g.2) := blk_cell BG.out 1
            have HGR : Hd (gapR id b z g = rangeS id b (max g.1 0) (min g.2 n) z) := hid (by unfold gapR; rw [HBL.out])
            obtain ⟨g1, g2⟩ := g
            simp only [] at o0 o1 HGR HE2 hgl2
            rcases Int.lt_or_le g1 0 with hg1 | hg1
            · rcases Int.lt_or_le n g2 with hg2 | hg2
              · have HQ : Hd (gapR id b z (g1, g2) = rangeS id b (0) (n) z) := hid (by rw [HGR.out]; congr 1 <;> omega)
                clear HGR
                go_wp2_with fail
                refine (pieces_any _ b id (0) (n) z _ HN1.out (HV1.out.mono (fun b h _ => h)) HB.out (by rw [HBL.out]; omega) (by omega) (by rw [HBL.out]; omega) hz12).mono ?_
                rw [← HQ.out]
                rintro e w2 ⟨a3, n3, c3, rfl, rfl, hp3, hk3⟩
                generalize hGL : gapR id b z (g1, g2) = G at *
                clear hGL HQ o0 o1
                have K3 := hid hk3; have z3 := hk3.size
                obtain ⟨xs, hxo, hge, hxc⟩ := HP.out
                have KR2 := hid (KW.out.trans hk3)
                have HO := hid (hxo.keep KR2.out (fun _ _ _ h => h)); have HGE := hid hge; have HXC := hid hxc; have HLT : Hd (∀ b, (Value.slice a acc.length c).ownBlock = some b → b < wr.heap.size) := hid (fun b hb => (hxo.1.lt b hb).2)
                obtain ⟨ns, hno, hnge, hnc⟩ := hp3
                have HNR : Hd (Row (fun _ => True) w2 5 (.slice a3 G.length c3) G.length ns) := hid (hno.row.mono (fun _ _ _ => trivial)); have HNC := hid hnc; have HN1S := hid hnc.ones
                clear hxo hge hxc hk3 hno hnge hnc HP
                go_wp2_with (at_builtin; refine wpList_append_row rfl (.tmp 34) (.tmp 46) 23 rfl 44 i0 zz 5 56 Tryd.underlying23 hi hz0 hz1 hz2 hz3 (by decide) _ (fun _ => True) (.slice a acc.length c) _ acc.length xs rfl HO.out G.length ns rfl HNR.out HN1S.out (by simp [maxLen]; omega) (by omega) ?_)
                intro a7 c7 w7 hown hk7; try intro _
                have HP7 : Hd (SgP (fun k => w.heap.size ≤ k) w.heap.size w7 (.slice a7 (acc.length + G.length) c7) (acc ++ G)) := hid (sgp_append HGE.out HXC.out KR2.out (HNC.out.mono (fun b _ h => ⟨by omega, fun e => by have := HLT.out b e; omega⟩)) (by omega) hown hk7)
                have K7 : Hd (Keeps (fun _ => False) w w7) := hid ((HK.out.trans KR2.out).trans' hk7 (fun i hi e => by have := HGE.out i e; omega))
                clear hown hk7 HO HGE HXC K3 HLT HNR HNC HN1S
                go_wp2
                go_roundw
                case rel => exact ⟨k + 1, a7, acc ++ G, c7, by rw [List.length_append], by go_num, by omega, HE2, by rw [List.length_append]; exact HP7, K7⟩
                case measure => simp [intOf]; omega
              · have HQ : Hd (gapR id b z (g1, g2) = rangeS id b (0) (g2) z) := hid (by rw [HGR.out]; congr 1 <;> omega)
                clear HGR
                go_wp2_with fail
                refine (pieces_any _ b id (0) (g2) z _ HN1.out (HV1.out.mono (fun b h _ => h)) HB.out (by rw [HBL.out]; omega) (by omega) (by rw [HBL.out]; omega) hz12).mono ?_
                rw [← HQ.out]
                rintro e w2 ⟨a3, n3, c3, rfl, rfl, hp3, hk3⟩
                generalize hGL : gapR id b z (g1, g2) = G at *
                clear hGL HQ o0 o1
                have K3 := hid hk3; have z3 := hk3.size
                obtain ⟨xs, hxo, hge, hxc⟩ := HP.out
                have KR2 := hid (KW.out.trans hk3)
                have HO := hid (hxo.keep KR2.out (fun _ _ _ h => h)); have HGE := hid hge; have HXC := hid hxc; have HLT : Hd (∀ b, (Value.slice a acc.length c).ownBlock = some b → b < wr.heap.size) := hid (fun b hb => (hxo.1.lt b hb).2)
                obtain ⟨ns, hno, hnge, hnc⟩ := hp3
                have HNR : Hd (Row (fun _ => True) w2 5 (.slice a3 G.length c3) G.length ns) := hid (hno.row.mono (fun _ _ _ => trivial)); have HNC := hid hnc; have HN1S := hid hnc.ones
                clear hxo hge hxc hk3 hno hnge hnc HP
                go_wp2_with (at_builtin; refine wpList_append_row rfl (.tmp 34) (.tmp 46) 23 rfl 44 i0 zz 5 56 Tryd.underlying23 hi hz0 hz1 hz2 hz3 (by decide) _ (fun _ => True) (.slice a acc.length c) _ acc.length xs rfl HO.out G.length ns rfl HNR.out HN1S.out (by simp [maxLen]; omega) (by omega) ?_)
                intro a7 c7 w7 hown hk7; try intro _
                have HP7 : Hd (SgP (fun k => w.heap.size ≤ k) w.heap.size w7 (.slice a7 (acc.length + G.length) c7) (acc ++ G)) := hid (sgp_append HGE.out HXC.out KR2.out (HNC.out.mono (fun b _ h => ⟨by omega, fun e => by have := HLT.out b e; omega⟩)) (by omega) hown hk7)
                have K7 : Hd (Keeps (fun _ => False) w w7) := hid ((HK.out.trans KR2.out).trans' hk7 (fun i hi e => by have := HGE.out i e; omega))
                clear hown hk7 HO HGE HXC K3 HLT HNR HNC HN1S
                go_wp2
                go_roundw
                case rel => exact ⟨k + 1, a7, acc ++ G, c7, by rw [List.length_append], by go_num, by omega, HE2, by rw [List.length_append]; exact HP7, K7⟩
                case measure => simp [intOf]; omega
            · rcases Int.lt_or_le n g2 with hg2 | hg2
              · have HQ : Hd (gapR id b z (g1, g2) = rangeS id b (g1) (n) z) := hid (by rw [HGR.out]; congr 1 <;> omega)
                clear HGR
                go_wp2_with fail
                refine (pieces_any _ b id (g1) (n) z _ HN1.out (HV1.out.mono (fun b h _ => h)) HB.out (by rw [HBL.out]; omega) (by omega) (by rw [HBL.out]; omega) hz12).mono ?_
                rw [← HQ.out]
                rintro e w2 ⟨a3, n3, c3, rfl, rfl, hp3, hk3⟩
                generalize hGL : gapR id b z (g1, g2) = G at *
                clear hGL HQ o0 o1
                have K3 := hid hk3; have z3 := hk3.size
                obtain ⟨xs, hxo, hge, hxc⟩ := HP.out
                have KR2 := hid (KW.out.trans hk3)
                have HO := hid (hxo.keep KR2.out (fun _ _ _ h => h)); have HGE := hid hge; have HXC := hid hxc; have HLT : Hd (∀ b, (Value.slice a acc.length c).ownBlock = some b → b < wr.heap.size) := hid (fun b hb => (hxo.1.lt b hb).2)
                obtain ⟨ns, hno, hnge, hnc⟩ := hp3
                have HNR : Hd (Row (fun _ => True) w2 5 (.slice a3 G.length c3) G.length ns) := hid (hno.row.mono (fun _ _ _ => trivial)); have HNC := hid hnc; have HN1S := hid hnc.ones
                clear hxo hge hxc hk3 hno hnge hnc HP
                go_wp2_with (at_builtin; refine wpList_append_row rfl (.tmp 34) (.tmp 46) 23 rfl 44 i0 zz 5 56 Tryd.underlying23 hi hz0 hz1 hz2 hz3 (by decide) _ (fun _ => True) (.slice a acc.length c) _ acc.length xs rfl HO.out G.length ns rfl HNR.out HN1S.out (by simp [maxLen]; omega) (by omega) ?_)
                intro a7 c7 w7 hown hk7; try intro _
                have HP7 : Hd (SgP (fun k => w.heap.size ≤ k) w.heap.size w7 (.slice a7 (acc.length + G.length) c7) (acc ++ G)) := hid (sgp_append HGE.out HXC.out KR2.out (HNC.out.mono (fun b _ h => ⟨by omega, fun e => by have := HLT.out b e; omega⟩)) (by omega) hown hk7)
                have K7 : Hd (Keeps (fun _ => False) w w7) := hid ((HK.out.trans KR2.out).trans' hk7 (fun i hi e => by have := HGE.out i e; omega))
                clear hown hk7 HO HGE HXC K3 HLT HNR HNC HN1S
                go_wp2
                go_roundw
                case rel => exact ⟨k + 1, a7, acc ++ G, c7, by rw [List.length_append], by go_num, by omega, HE2, by rw [List.length_append]; exact HP7, K7⟩
                case measure => simp [intOf]; omega
              · have HQ : Hd (gapR id b z (g1, g2) = rangeS id b (g1) (g2) z) := hid (by rw [HGR.out]; congr 1 <;> omega)
                clear HGR
                go_wp2_with fail
                refine (pieces_any _ b id (g1) (g2) z _ HN1.out (HV1.out.mono (fun b h _ => h)) HB.out (by rw [HBL.out]; omega) (by omega) (by rw [HBL.out]; omega) hz12).mono ?_
                rw [← HQ.out]
                rintro e w2 ⟨a3, n3, c3, rfl, rfl, hp3, hk3⟩
                generalize hGL : gapR id b z (g1, g2) = G at *
                clear hGL HQ o0 o1
                have K3 := hid hk3; have z3 := hk3.size
                obtain ⟨xs, hxo, hge, hxc⟩ := HP.out
                have KR2 := hid (KW.out.trans hk3)
                have HO := hid (hxo.keep KR2.out (fun _ _ _ h => h)); have HGE := hid hge; have HXC := hid hxc; have HLT : Hd (∀ b, (Value.slice a acc.length c).ownBlock = some b → b < wr.heap.size) := hid (fun b hb => (hxo.1.lt b hb).2)
                obtain ⟨ns, hno, hnge, hnc⟩ := hp3
                have HNR : Hd (Row (fun _ => True) w2 5 (.slice a3 G.length c3) G.length ns) := hid (hno.row.mono (fun _ _ _ => trivial)); have HNC := hid hnc; have HN1S := hid hnc.ones
                clear hxo hge hxc hk3 hno hnge hnc HP
                go_wp2_with (at_builtin; refine wpList_append_row rfl (.tmp 34) (.tmp 46) 23 rfl 44 i0 zz 5 56 Tryd.underlying23 hi hz0 hz1 hz2 hz3 (by decide) _ (fun _ => True) (.slice a acc.length c) _ acc.length xs rfl HO.out G.length ns rfl HNR.out HN1S.out (by simp [maxLen]; omega) (by omega) ?_)
                intro a7 c7 w7 hown hk7; try intro _
                have HP7 : Hd (SgP (fun k => w.heap.size ≤ k) w.heap.size w7 (.slice a7 (acc.length + G.length) c7) (acc ++ G)) := hid (sgp_append HGE.out HXC.out KR2.out (HNC.out.mono (fun b _ h => ⟨by omega, fun e => by have := HLT.out b e; omega⟩)) (by omega) hown hk7)
                have K7 : Hd (Keeps (fun _ => False) w w7) := hid ((HK.out.trans KR2.out).trans' hk7 (fun i hi e => by have := HGE.out i e; omega))
                clear hown hk7 HO HGE HXC K3 HLT HNR HNC HN1S
                go_wp2
                go_roundw
                case rel => exact ⟨k + 1, a7, acc ++ G, c7, by rw [List.length_append], by go_num, by omega, HE2, by rw [List.length_append]; exact HP7, K7⟩
                case measure => simp [intOf]; omega
          · obtain rfl : k = m := by omega
            have k0 : ¬ ((k : Int) < k) := by omega
            have HR : Hd (SgRet (fun k => w.heap.size ≤ k) w A (.returned (.slice a acc.length c)) wr) := hid (by
              have e : acc = A := by rw [HE.out, ← HLL.out, List.take_length, HRET.out]
              rw [← e]
              exact ⟨a, _, c, rfl, rfl, HP.out, HK.out⟩)
            clear HE HP HK HRET
            go_wp2
            go_ret
            exact HR.out
  · have d0 : (F != 0) = true := by simp; exact hF0
    have HR := hid (HNIL.out (.inl hF0))
    clear hF0
    go_wp2
    go_ret
    exact HR.out
set_option maxRecDepth 100000 in set_option maxHeartbeats 1000000 in
theorem Cut_any (v : Value) (b : List Nat) (id z : Int) (w : World) (hN : Cr.Nib w) (hv : Sl (fun k => k < w.heap.size) w v (u8s b)) (hb : ∀ c ∈ b, c < 256) (hm : b.length ≤ 65538) :
    Calls Tryd.prog 12 #[.int .i64 id, v, .int .i64 z] w fun e w' => ∃ a n c, e = .returned (.tuple #[.slice a n c, .int .i64 (fitsL b z)]) ∧ n = (cutL id b z).length ∧ SgP (fun k => w.heap.size ≤ k) w.heap.size w' (.slice a n c) (cutL id b z) ∧ Keeps (fun _ => False) w w' := by
  have HN := hid hN; have HB := hid hb; have HV := hid hv
  obtain ⟨av, cv, rfl, _⟩ := hv.bytes
  clear hN hb hv
  obtain ⟨A, hA⟩ : ∃ A, cutL id b z = A := ⟨_, rfl⟩
  rw [hA]
  have HA := hid hA; clear hA
  obtain ⟨F, hF⟩ : ∃ F, fitsL b z = F := ⟨_, rfl⟩
  have HF := hid hF
  rw [hF]
  clear hF
  generalize hbl : b.length = n at *
  have HBL := hid hbl; clear hbl
  go_enter Tryd.func12, Tryd.ntmps12
  go_wp2_with fail
  refine (fits_any _ b z _ _ HV.out).mono ?_
  rw [HF.out]
  rintro e wx ⟨rfl, rfl⟩
  by_cases hF0 : F = 0
  · have d0 : (F != 0) = false := by simp; exact hF0
    have HF0 := hid hF0
    subst hF0
    have HRET : Hd (answerL id b [(0, n)] z = A) := hid (by rw [← HA.out]; unfold cutL; rw [HF.out, if_neg (by simp), HBL.out])
    have KA := hid (keeps_alloc (fun _ => False) w (.cells #[.int .i64 0, .int .i64 n] 52))
    have HG : Hd (Row (fun k => k < (w.alloc (.cells #[.int .i64 0, .int .i64 n] 52)).heap.size) (w.alloc (.cells #[.int .i64 0, .int .i64 n] 52)) 2 (.slice (some ⟨w.heap.size, 0, none⟩) 1 1) 1 (gpX [(0, (n : Int))])) := hid ((lit_rowF w #[.int .i64 0, .int .i64 n] 52 1 2 rfl (by decide)).mono (fun b h _ => h))
    go_wp2_with fail
    refine (Answer_any _ _ b [(0, (n : Int))] id z _ (HN.out.keep KA.out (fun h => h)) ((HV.out.keep KA.out (fun _ _ _ h => h)).mono (fun b h _ => h)) HB.out HG.out (by simp) (by rw [HBL.out]; exact hm)).mono ?_
    rw [HRET.out]
    rintro e w2 ⟨a3, n3, c3, rfl, rfl, hp3, hk3⟩
    have HR : Hd (SgP (fun k => w.heap.size ≤ k) w.heap.size w2 (.slice a3 A.length c3) A) := hid (by
      obtain ⟨xs, h1, h2, h3⟩ := hp3
      have zA := KA.out.size
      exact ⟨xs, h1, fun b hb => Nat.le_trans zA (h2 b hb), h3.mono (fun b _ h => ⟨Nat.le_trans zA h.1, h.2⟩)⟩)
    have K2 := hid (KA.out.trans hk3)
    clear hp3 hk3
    go_wp2
    go_ret2
    exact ⟨a3, _, c3, rfl, rfl, HR.out, K2.out⟩
  · have d0 : (F != 0) = true := by simp; exact hF0
    have HE : Hd (A = []) := hid (by rw [← HA.out]; unfold cutL; rw [HF.out, if_pos hF0])
    clear hF0
    go_wp2
    go_ret2
    rw [HE.out]
    exact ⟨none, 0, 0, rfl, rfl, SgP.nil _ _ _, Keeps.refl _ _⟩
end Go.Proofs.YtgeicbjlichdgaaDoor
