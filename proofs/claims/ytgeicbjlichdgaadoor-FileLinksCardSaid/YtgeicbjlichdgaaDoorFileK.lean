/- File: Bytes. -/
import Derived.Test.YtgeicbjlichdgaaDoorFileJ
import Derived.Deep.RegionHeld3
namespace Go.Proofs.YtgeicbjlichdgaaDoor
open Go.RowKit Go.Shelf
attribute [local go_sem] Oper.semAt_some
def bytesM (M : Pm) : List Nat × Int := if M.kn = false then ([], 3) else if gapsL M.hv ≠ [] then ([], 6) else if Cr.crc M.dt ≠ M.sm then ([], 8) else (M.dt, 0)
theorem gst_pre (l : List Bool) (k : Nat) : ∃ m, (gst l (k + 1)).2 = (gst l k).2 ++ m := by
  rw [gst_s]
  generalize gst l k = st
  unfold gstep
  split
  · exact ⟨[], by simp⟩
  · split
    · exact ⟨_, rfl⟩
    · exact ⟨[], by simp⟩
theorem gst_ne (l : List Bool) {k : Nat} (h : (gst l k).2 ≠ []) : ∀ j, (gst l (k + j)).2 ≠ []
  | 0 => h
  | j + 1 => fun e => by
    obtain ⟨m, hm⟩ := gst_pre l (k + j)
    rw [show k + (j + 1) = k + j + 1 by omega, hm] at e
    exact gst_ne l h j (List.append_eq_nil_iff.1 e).1
def BytesPost (w : World) (R : List Nat × Int) (e : Ending) (w' : World) : Prop := ∃ a n c, e = .returned (.tuple #[.slice a n c, .int .i64 R.2]) ∧ n = R.1.length ∧ Own (fun b => w.heap.size ≤ b) w' 5 1 (.slice a n c) n (u8s R.1) ∧ Below w.heap.size w w'
/-- the two results, in their cells -/
def BytI (w W0 : World) (e : Int) (W : World) : Prop := Blk W w.heap.size #[.slice none 0 0] 22 ∧ Blk W (w.heap.size + 1) #[.int .i64 e] 24 ∧ Below w.heap.size w W ∧ W0.heap.size ≤ W.heap.size
theorem bytI_grown {w W0 : World} {e : Int} {W W' : World} {row : Option Nat} (hw : w.heap.size ≤ W0.heap.size) (h : BytI w W0 e W) (hg : W.grownBy W' row) (hr : ∀ r, row = some r → W0.heap.size ≤ r ∧ ∃ o : Obj, W.heap[r]? = some o ∧ o.isCells = false) : BytI w W0 e W' := by
  obtain ⟨h1, h2, h4, h5⟩ := h
  have hk := grown_keeps hg
  have hne : ∀ b cs T, Blk W b cs T → row ≠ some b := fun b cs T hb e => by
    obtain ⟨_, o, ho, hc⟩ := hr b e
    rw [show W.heap[b]? = _ from hb] at ho; cases ho; cases hc
  exact ⟨blk_keep h1 hk (hne _ _ _ h1), blk_keep h2 hk (hne _ _ _ h2), h4.trans (hk.below (by have := h4.size; omega) (fun k hk' e => by have := (hr k e).1; omega)), Nat.le_trans h5 hk.size⟩
set_option maxRecDepth 100000 in set_option maxHeartbeats 1000000 in
theorem Bytes_in (Z : Nat → Prop) (p : Nat) (M : Pm) (w : World) (hN : Cr.Nib w) (hP : PartR Z w p M) (hM : M.ok) :
    CallsIn Fence.wide 3 Tryd.prog 25 #[.pointer (some ⟨p, 0, none⟩)] w fun e w' => BytesPost w (bytesM M) e w' := by
  obtain ⟨ah, ch, ad, cd, b1, zp, o1, o2⟩ := hP
  have HB := hid b1; have HR := hid o1.row; have HD := hid (row_sl o2.row (by rw [u8s_length])); have HN := hid hN
  have HBM : Hd (bytesM M = if M.kn = false then ([], 3) else if gapsL M.hv ≠ [] then ([], 6) else if Cr.crc M.dt ≠ M.sm then ([], 8) else (M.dt, 0)) := hid rfl
  have hm : M.hv.length ≤ 65536 := by rw [hM.len]; exact hM.max
  have HM := hid hM
  clear b1 o1 o2 hN hM
  have hpw := blk_lt HB.out
  refine callsIn_of_wp_marks Tryd.func25 rfl trivial ?_ rfl
  simp only [Tryd.ntmps25, List.size_toArray, List.length_cons, List.length_nil, Nat.reduceAdd, Nat.reduceSub, Array.replicate_succ, Array.replicate_zero, List.push_toArray, List.append_toArray, List.nil_append, List.cons_append]
  have kcases : M.kn = true ∨ M.kn = false := by cases M.kn <;> simp
  have p1 : ∀ o o', ((w.alloc o).alloc o').cell? ⟨p, 1, none⟩ = some (.bool M.kn) := fun o o' => blk_cell (blk_alloc (blk_alloc HB.out o) o') 1
  rcases kcases with hk | hk
  · rw [hk] at p1
    have HBN : Hd (bytesM M = if gapsL M.hv ≠ [] then ([], 6) else if Cr.crc M.dt ≠ M.sm then ([], 8) else (M.dt, 0)) := hid (by rw [HBM.out, hk]; rfl)
    clear hk
    gi_wp2_with fail
    refine ⟨trivial, ?_⟩
    refine (missing_in _ _ _).mono ?_
    rintro e w' ⟨rfl, rfl⟩
    gi_wp2
    obtain ⟨W0, hW0⟩ : ∃ W0, (((w.alloc (.cells #[.slice none 0 0] 22)).alloc (.cells #[.int .i64 0] 24)).alloc (.cells #[.pointer (some ⟨p, 0, none⟩)] 37)) = W0 := ⟨_, rfl⟩
    have b0 : Blk W0 w.heap.size #[.slice none 0 0] 22 := by rw [← hW0]; exact blk_alloc (blk_alloc (blk_new _ _ _) _) _
    have b1 : Blk W0 (w.heap.size + 1) #[.int .i64 0] 24 := by rw [← hW0]; exact blk_alloc (blk_new' _ _ _ _ (by simp)) _
    have b2 : Blk W0 (w.heap.size + 1 + 1) #[.pointer (some ⟨p, 0, none⟩)] 37 := by rw [← hW0]; exact blk_new' _ _ _ _ (by simp)
    have k0 : Keeps (fun _ => False) w W0 := by rw [← hW0]; exact ((keeps_alloc _ _ _).alloc _).alloc _
    have hB0 : Below w.heap.size w W0 := k0.below (Nat.le_refl _) (fun _ _ h => h)
    have hs0 := k0.size
    have hs2 := blk_lt b2
    rw [hW0]
    refine wpIn_rangeFunc_ownH rfl (by omega) (gf := 61) (lb := #[.pointer (some ⟨w.heap.size + 1 + 1, 0, none⟩)]) rfl trivial (enters_of Tryd.func61 (by kernel_rfl) rfl)
      (missing_stops 2 (w.heap.size + 1 + 1) p M.hv ah ch W0 (blk_cell b2 0) (blk_cell (blk_keep HB.out k0 (fun h => h)) 3) ((HR.out.keep k0 (fun _ _ _ h => h)).mono (fun _ _ _ => trivial)) hm) boolK_t (fun W l o o' _ h ho _ => boolK_b W l o o' h ho) (Below.refl _ _) (fun _ => rfl)
      (fun pre W => pre = [] ∧ BytI w W0 0 W) (fun c pre W => c = .ret ∧ pre ≠ [] ∧ BytI w W0 6 W) (fun pre W W' row h hg hr => ⟨h.1, bytI_grown hs0 h.2 hg hr⟩) (fun _ pre W W' row h hg hr => ⟨h.1, h.2.1, bytI_grown hs0 h.2.2 hg hr⟩) ⟨rfl, b0, b1, hB0, Nat.le_refl _⟩
      (fun x a' W => a' = { tmps := #[.pointer (some ⟨p, 0, none⟩), undef, .pointer (some ⟨w.heap.size, 0, none⟩), .pointer (some ⟨w.heap.size + 1, 0, none⟩), .pointer (some ⟨p, 0, none⟩), .pointer (some ⟨p, 0, none⟩), .pointer (some ⟨p, 1, none⟩), .bool true, .bool false, .pointer (some ⟨p, 0, none⟩), .func (.func 61) #[] #[.pointer (some ⟨w.heap.size + 1 + 1, 0, none⟩)], .agg #[.int .i64 x.1, .int .i64 x.2], undef, undef, undef, undef, undef, undef, undef, undef, undef, undef, undef, undef, undef, undef, undef], defers := [] })
      (fun x a' _ _ _ _ h _ _ => h)
      ?assign ?body ?done ?stop
    case assign =>
      rintro l pre x W K hI hK
      gi_wp2
      exact hK _ _ (KeepsFrom.refl _ _) ⟨Nat.le_refl _, fun _ _ h => h⟩ hI (by first | rfl | kernel_rfl | simp)
    case body =>
      rintro l pre x a' W hl ⟨r, hr⟩ ⟨rfl, h1, h2, h4, h5⟩ rfl hlt
      have o0 : W.cell? ⟨w.heap.size, 0, none⟩ = some (.slice none 0 0) := blk_cell h1 0
      have o1 : W.cell? ⟨w.heap.size + 1, 0, none⟩ = some (.int .i64 0) := blk_cell h2 0
      have f0 := blk_free h1 0
      have f1 := blk_free h2 0
      have H1 := hid h1; have H2 := hid h2; have H4 := hid h4
      clear h1 h2 h4
      gi_wp2
      refine ⟨((KeepsOthers.setCell _ _ _).trans (KeepsOthers.setCell _ _ _)).from _, rfl, by simp, ?_, ?_, ?_, ?_⟩
      · exact blk_other (blk_set H1.out 0 _) (by omega) 0 _
      · exact blk_set (blk_other H2.out (by omega) 0 _) 0 _
      · exact ((H4.out.setCell (p := ⟨w.heap.size, 0, none⟩) (by simp) _).setCell (p := ⟨w.heap.size + 1, 0, none⟩) (by simp) _)
      · simpa [World.setCell] using h5
    case done =>
      rintro D xs W hD rfl ⟨hg, h1, h2, h4, h5⟩ hK
      have hKB : Keeps (fun b => w.heap.size ≤ b) w W := Keeps.of_below h4
      have HBW := hid (blk_keep HB.out hKB (by omega)); have HDW := hid (HD.out.keep hKB (fun b hb _ h => by omega)); have HNW : Hd (Cr.Nib W) := hid (HN.out.keep hKB (by omega))
      have HBN2 : Hd (bytesM M = if Cr.crc M.dt ≠ M.sm then ([], 8) else (M.dt, 0)) := hid (by rw [HBN.out, if_neg (by rw [hg]; simp)])
      have p2 : W.cell? ⟨p, 2, none⟩ = some (.int .u32 (M.sm : Int)) := blk_cell HBW.out 2
      have p4 : W.cell? ⟨p, 4, none⟩ = some (.slice ad M.dt.length cd) := blk_cell HBW.out 4
      have HSS : Hd (∀ w', Keeps (fun _ => False) W w' → (w'.cell? ⟨p, 2, none⟩ = some (.int .u32 (M.sm : Int)) ∧ w'.cell? ⟨p, 4, none⟩ = some (.slice ad M.dt.length cd))) := hid (fun w' hk => ⟨keep_cell hk (fun h => h) p2, keep_cell hk (fun h => h) p4⟩)
      have H1 := hid h1; have H2 := hid h2; have H4 := hid h4; have HK := hid hK
      clear h1 h2 h4 hK hKB p2 p4
      gi_wp2_with fail
      refine wpIn_wide.2 ?_
      by_cases hc : Cr.crc M.dt = M.sm
      · have e1 : ((Cr.crc M.dt : Int) != (M.sm : Int)) = false := by simp; omega
        have HBN3 : Hd (bytesM M = (M.dt, 0)) := hid (by rw [HBN2.out, if_neg (fun h => h hc)])
        clear hc
        go_region_held3 (fun w' => w'.cell? ⟨p, 2, none⟩ = some (.int .u32 (M.sm : Int)) ∧ w'.cell? ⟨p, 4, none⟩ = some (.slice ad M.dt.length cd)) (exact HSS.out _ (by repeat (first | (with_reducible exact Keeps.refl _ _) | (with_reducible apply Keeps.drewN) | (with_reducible apply Keeps.drew))))
          (first
          | (go_at_call 29; refine (Cr.Sum_any _ _ M.dt _ (HNW.out.keep (S := fun _ => False) (by repeat (first | (with_reducible exact Keeps.refl _ _) | (with_reducible apply Keeps.drewN) | (with_reducible apply Keeps.drew))) (fun h => h)) (HDW.out.keep (S := fun _ => False) (by repeat (first | (with_reducible exact Keeps.refl _ _) | (with_reducible apply Keeps.drewN) | (with_reducible apply Keeps.drew))) (fun _ _ _ h => h)) HM.out.b (by have := HM.out.max; omega)).mono ?_; rintro e wx ⟨rfl, rfl⟩))
        all_goals
          have q4 : ∀ n, (W.drewN n).cell? ⟨p, 4, none⟩ = some (.slice ad M.dt.length cd) := fun n => (HSS.out _ ((Keeps.refl _ _).drewN n)).2
          have q5 : W.drew.cell? ⟨p, 4, none⟩ = some (.slice ad M.dt.length cd) := (HSS.out _ (Keeps.refl _ _).drew).2
          gi_wp2_with fail
          refine ⟨trivial, ?_⟩
          refine (callsIn_wide.2 (Cr.CloneB_any _ _ M.dt _ (HDW.out.keep (S := fun _ => False) (Keeps.refl _ _).drew (fun _ _ _ h => h)) (by have := HM.out.max; omega))).mono ?_
          rintro e w5 ⟨a5, n5, c5, rfl, hn5, ho5, hk5⟩
          obtain rfl : n5 = M.dt.length := by rw [hn5, u8s_length]
          have KW5 : Hd (Keeps (fun _ => False) W w5) := hid ((Keeps.refl _ _).drew.trans hk5)
          have HO5 := hid ho5
          have B1 := hid (blk_keep H1.out KW5.out (fun h => h)); have B2 := hid (blk_keep H2.out KW5.out (fun h => h))
          have o0 : w5.cell? ⟨w.heap.size, 0, none⟩ = some (.slice none 0 0) := blk_cell B1.out 0
          have o1 : w5.cell? ⟨w.heap.size + 1, 0, none⟩ = some (.int .i64 0) := blk_cell B2.out 0
          have f0 := blk_free B1.out 0
          have f1 := blk_free B2.out 0
          have z5 := KW5.out.size
          have HKD : w5.heap[D]? = some (.deferred (some [])) := (KW5.out.block D (Array.getElem?_eq_some_iff.1 HK.out).1 (fun h => h)).trans HK.out
          have hws : w.heap.size ≤ W.heap.size := by omega
          clear hn5 ho5 hk5 q4 q5
          gi_wp2
          have T1 := blk_other (blk_set B1.out 0 (.slice a5 M.dt.length c5)) (show w.heap.size + 1 ≠ w.heap.size by omega) 0 (.int .i64 0)
          have T2 := blk_set (blk_other B2.out (show w.heap.size ≠ w.heap.size + 1 by omega) 0 (.slice a5 M.dt.length c5)) 0 (.int .i64 0)
          have hKV := ((KeepsOthers.setCell w5 ⟨w.heap.size, 0, none⟩ (.slice a5 M.dt.length c5)).trans (KeepsOthers.setCell _ ⟨w.heap.size + 1, 0, none⟩ (.int .i64 0))).same D _ HKD rfl
          have hOV := ((HO5.out.keep (keeps_set (fun b => b = w.heap.size) w5 ⟨w.heap.size, 0, none⟩ (.slice a5 M.dt.length c5) rfl) (fun b _ h1 h2 => by have h1' : W.heap.size ≤ b := h1; omega)).keep (keeps_set (fun b => b = w.heap.size + 1) _ ⟨w.heap.size + 1, 0, none⟩ (.int .i64 0) rfl) (fun b _ h1 h2 => by have h1' : W.heap.size ≤ b := h1; omega))
          have hBV := ((H4.out.trans (KW5.out.below H4.out.size (fun _ _ h => h))).setCell (p := ⟨w.heap.size, 0, none⟩) (by simp) (.slice a5 M.dt.length c5)).setCell (p := ⟨w.heap.size + 1, 0, none⟩) (by simp) (.int .i64 0)
          generalize ((w5.setCell ⟨w.heap.size, 0, none⟩ (.slice a5 M.dt.length c5)).setCell ⟨w.heap.size + 1, 0, none⟩ (.int .i64 0)) = V at *
          have hnD : ∀ b cs T, Blk V b cs T → b ≠ D := fun b cs T hb e => by
            subst e
            rw [show V.heap[b]? = _ from hb] at hKV; cases hKV
          have hpk := grown_keeps (grownBy_putObj' V D (.deferred none))
          have c0 := blk_cell (blk_keep T1 hpk (fun e => by injection e with e; exact hnD _ _ _ T1 e.symm)) 0
          have c1 := blk_cell (blk_keep T2 hpk (fun e => by injection e with e; exact hnD _ _ _ T2 e.symm)) 0
          simp at c0 c1
          refine ⟨by simp, .inl ⟨_, _, rfl, run_takeDeferred hKV, ?_⟩⟩
          refine ⟨.tuple #[.slice a5 M.dt.length c5, .int .i64 0], by simp [results, Tryd.f25, go_sem, c0, c1], ?_⟩
          rw [HBN3.out]
          refine ⟨a5, _, c5, rfl, rfl, ((own_self hOV).keep hpk (fun b _ hb e => ?_)).mono (fun b _ h => by have h1 : W.heap.size ≤ b := hOV.2 b h; omega), hBV.trans (belowK_b (w := w) (Nat.le_refl _) V D _ _ (by omega) hKV rfl rfl)⟩
          obtain ⟨cs, hcs⟩ := own_cells hOV hb
          injection e with e
          exact hnD _ _ _ hcs e.symm
      · have e1 : ((Cr.crc M.dt : Int) != (M.sm : Int)) = true := by simp; omega
        have HBN3 : Hd (bytesM M = ([], 8)) := hid (by rw [HBN2.out, if_pos hc])
        clear hc
        go_region_held3 (fun w' => w'.cell? ⟨p, 2, none⟩ = some (.int .u32 (M.sm : Int)) ∧ w'.cell? ⟨p, 4, none⟩ = some (.slice ad M.dt.length cd)) (exact HSS.out _ (by repeat (first | (with_reducible exact Keeps.refl _ _) | (with_reducible apply Keeps.drewN) | (with_reducible apply Keeps.drew))))
          (first
          | (go_at_call 29; refine (Cr.Sum_any _ _ M.dt _ (HNW.out.keep (S := fun _ => False) (by repeat (first | (with_reducible exact Keeps.refl _ _) | (with_reducible apply Keeps.drewN) | (with_reducible apply Keeps.drew))) (fun h => h)) (HDW.out.keep (S := fun _ => False) (by repeat (first | (with_reducible exact Keeps.refl _ _) | (with_reducible apply Keeps.drewN) | (with_reducible apply Keeps.drew))) (fun _ _ _ h => h)) HM.out.b (by have := HM.out.max; omega)).mono ?_; rintro e wx ⟨rfl, rfl⟩))
        all_goals
          have o0 : W.cell? ⟨w.heap.size, 0, none⟩ = some (.slice none 0 0) := blk_cell H1.out 0
          have o1 : W.cell? ⟨w.heap.size + 1, 0, none⟩ = some (.int .i64 0) := blk_cell H2.out 0
          have f0 := blk_free H1.out 0
          have f1 := blk_free H2.out 0
          gi_wp2
          have T1 := blk_drew (blk_other (blk_set H1.out 0 (.slice none 0 0)) (show w.heap.size + 1 ≠ w.heap.size by omega) 0 (.int .i64 8))
          have T2 := blk_drew (blk_set (blk_other H2.out (show w.heap.size ≠ w.heap.size + 1 by omega) 0 (.slice none 0 0)) 0 (.int .i64 8))
          have hKV : ((W.setCell ⟨w.heap.size, 0, none⟩ (.slice none 0 0)).setCell ⟨w.heap.size + 1, 0, none⟩ (.int .i64 8)).drew.heap[D]? = some (.deferred (some [])) := ((KeepsOthers.setCell W ⟨w.heap.size, 0, none⟩ (.slice none 0 0)).trans (KeepsOthers.setCell _ ⟨w.heap.size + 1, 0, none⟩ (.int .i64 8))).same D _ HK.out rfl
          have hBV : Below w.heap.size w ((W.setCell ⟨w.heap.size, 0, none⟩ (.slice none 0 0)).setCell ⟨w.heap.size + 1, 0, none⟩ (.int .i64 8)).drew := H4.out.trans (Keeps.below (S := fun b => w.heap.size ≤ b) (((Keeps.refl _ W).setCell (p := ⟨w.heap.size, 0, none⟩) (.inl (by simp)) _).setCell (p := ⟨w.heap.size + 1, 0, none⟩) (.inl (by simp)) _).drew H4.out.size (fun k hk h => by omega))
          generalize ((W.setCell ⟨w.heap.size, 0, none⟩ (.slice none 0 0)).setCell ⟨w.heap.size + 1, 0, none⟩ (.int .i64 8)).drew = V at *
          have hnD : ∀ b cs T, Blk V b cs T → b ≠ D := fun b cs T hb e => by
            subst e
            rw [show V.heap[b]? = _ from hb] at hKV; cases hKV
          have hpk := grown_keeps (grownBy_putObj' V D (.deferred none))
          have c0 := blk_cell (blk_keep T1 hpk (fun e => by injection e with e; exact hnD _ _ _ T1 e.symm)) 0
          have c1 := blk_cell (blk_keep T2 hpk (fun e => by injection e with e; exact hnD _ _ _ T2 e.symm)) 0
          simp at c0 c1
          refine ⟨by simp, .inl ⟨_, _, rfl, run_takeDeferred hKV, ?_⟩⟩
          refine ⟨.tuple #[.slice none 0 0, .int .i64 8], by simp [results, Tryd.f25, go_sem, c0, c1], ?_⟩
          rw [HBN3.out]
          exact ⟨none, 0, 0, rfl, rfl, Own.nil _ _ _ _, hBV.trans (belowK_b (w := w) (Nat.le_refl _) V D _ _ (by omega) hKV rfl rfl)⟩
    case stop =>
      rintro D c pre W hD ⟨k, hk, rfl⟩ ⟨rfl, hne, hI⟩ hK
      have HGN : Hd (gapsL M.hv ≠ []) := hid (by
        have h := gst_ne (M.hv ++ [true]) hne (M.hv.length + 1 - k)
        rw [show k + (M.hv.length + 1 - k) = M.hv.length + 1 by omega] at h
        exact h)
      have hI2 := bytI_grown hs0 hI (grownBy_putObj' W D (.deferred none)) (fun r e => by cases e; exact ⟨hD, _, hK, rfl⟩)
      have c0 : (W.putObj D (.deferred none)).cell? ⟨w.heap.size, 0, none⟩ = some (.slice none 0 0) := blk_cell hI2.1 0
      have c1 : (W.putObj D (.deferred none)).cell? ⟨w.heap.size + 1, 0, none⟩ = some (.int .i64 6) := blk_cell hI2.2.1 0
      have HI2 := hid hI2
      clear hI hI2
      gi_wp2
      refine ⟨by simp, .inl ⟨_, _, rfl, run_takeDeferred hK, ?_⟩⟩
      refine ⟨.tuple #[.slice none 0 0, .int .i64 6], by simp [results, Tryd.f25, go_sem, c0, c1], ?_⟩
      rw [HBN.out, if_pos HGN.out]
      exact ⟨none, 0, 0, rfl, rfl, Own.nil _ _ _ _, HI2.out.2.2.1⟩
  · rw [hk] at p1
    have HBN : Hd (bytesM M = ([], 3)) := hid (by rw [HBM.out, if_pos hk])
    clear hk
    gi_wp2
    have c0 : ((w.alloc (.cells #[.slice none 0 0] 22)).alloc (.cells #[.int .i64 3] 24)).cell? ⟨w.heap.size, 0, none⟩ = some (.slice none 0 0) := blk_cell (blk_alloc (blk_new _ _ _) _) 0
    have c1 : ((w.alloc (.cells #[.slice none 0 0] 22)).alloc (.cells #[.int .i64 3] 24)).cell? ⟨w.heap.size + 1, 0, none⟩ = some (.int .i64 3) := blk_cell (blk_new' _ _ _ _ (by simp)) 0
    refine ⟨.tuple #[.slice none 0 0, .int .i64 3], by simp [results, Tryd.f25, go_sem, c0, c1], ?_⟩
    rw [HBN.out]
    exact ⟨none, 0, 0, rfl, rfl, Own.nil _ _ _ _, ((Below.refl _ w).alloc (Nat.le_refl _) _).alloc (by simp) _⟩
theorem Bytes_any (Z : Nat → Prop) (p : Nat) (M : Pm) (w : World) (hN : Cr.Nib w) (hP : PartR Z w p M) (hM : M.ok) :
    Calls Tryd.prog 25 #[.pointer (some ⟨p, 0, none⟩)] w fun e w' => ∃ a c, e = .returned (.tuple #[.slice a (bytesM M).1.length c, .int .i64 (bytesM M).2]) ∧ Own (fun b => w.heap.size ≤ b) w' 5 1 (.slice a (bytesM M).1.length c) (bytesM M).1.length (u8s (bytesM M).1) ∧ Keeps (fun _ => False) w w' := by
  refine ((callsIn_wide (n := 3)).1 (Bytes_in Z p M w hN hP hM)).mono ?_
  rintro e w' ⟨a, n, c, h1, rfl, h2, h3⟩
  exact ⟨a, c, h1, h2, (Keeps.of_below h3).mono (fun b hb h => by omega)⟩
end Go.Proofs.YtgeicbjlichdgaaDoor
