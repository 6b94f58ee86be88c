/- The walks of the reference's reader (package perigeeref02): lists, the end. -/
import Derived.Test.YtlebocjcelbbpaaWireH
namespace Go.Proofs.Ytlebocjcelbbpaa
open Go.RowKit

def VLPost (K : Nat → Prop) (w : World) (most : Int) (s : St) (r : Ending) (w' : World) : Prop :=
  ∃ v a n c, r = .returned (.tuple #[v, .slice a n c]) ∧ n = (sL most s).2.length ∧ Sl (fun k => w.heap.size ≤ k) w' (.slice a n c) (i64s (sL most s).2) ∧ RV K w' v (sL most s).1 ∧ Keeps (fun _ => False) w w'
set_option maxRecDepth 100000 in set_option maxHeartbeats 1000000 in
theorem VInts_any (K : Nat → Prop) (v : Value) (most : Int) (s : St) (w : World) (h : RV K w v s) (hmo : most ≤ 9223372036854775807) (hlen : s.2.length ≤ 1000000000000) :
    Calls Try.prog 29 #[v, .int .i64 most] w fun e w' => VLPost K w most s e w' := by
  obtain ⟨i0, hi, hz0, hz1, hz2⟩ := info_parts infoIntW
  have HMO := hid hmo; have HLS := hid hlen; clear hmo hlen
  have HR := hid h
  obtain ⟨a, n, c, rfl⟩ := rv_form h
  clear h
  have HR2 : Hd (RV (fun b => K b ∧ b < w.heap.size) ((w.alloc (.cells #[.slice a n c, .int .i64 s.1] 30)).alloc (.cells #[.slice none 0 0, .int .i64 0] 30)) (.agg #[.slice a n c, .int .i64 s.1]) s) := hid (HR.out.old.keep (S := fun _ => False) (by repeat (first | (with_reducible assumption) | (with_reducible exact Keeps.refl _ _) | (with_reducible apply Keeps.drewN) | (with_reducible apply Keeps.drew) | (with_reducible apply Keeps.alloc) | refine Keeps.setCell ?_ (by first | (simp; done) | (simp; omega)) _)) (fun _ _ _ h => h))
  go_enter Try.func29, Try.ntmps29
  go_wp2_with fail
  refine (VSize_any _ _ most s _ HR2.out HMO.out).mono ?_
  rintro e w1 ⟨v1, rfl, h1, hk1⟩
  have hH1 := hid h1
  obtain ⟨a1, n1, c1, rfl⟩ := rv_form h1
  have HF : Hd (sLs most s = sLoop (sSize most s).2 (sSize most s).1 []) := hid rfl
  have HN : Hd (((sSize most s).2 : Int) ≤ 9223372036854775807) := hid (by have := HMO.out; rcases sSize_le most s with h | h <;> omega)
  have HNE : Hd ((sSize most s).1.1 ≠ 0 → (sSize most s).2 = 0) := hid (fun h => by rcases sSize_le most s with h0 | h0; exact h0; exact absurd h0.1 h)
  have HL0 : Hd ((sSize most s).1.2.length ≤ 1000000000000) := hid (by have := sSize_rest most s; have := HLS.out; omega)
  clear h1
  generalize hu : (sSize most s).2 = u at *
  clear hu
  generalize ht : (sSize most s).1 = t at *
  clear ht
  have B0 := blk_keep (blk_alloc (blk_new w #[.slice a n c, .int .i64 s.1] 30) (.cells #[.slice none 0 0, .int .i64 0] 30)) hk1 (fun h => h)
  have B1 := blk_keep (blk_new' (w.alloc (.cells #[.slice a n c, .int .i64 s.1] 30)) #[.slice none 0 0, .int .i64 0] 30 (w.heap.size + 1) (by simp)) hk1 (fun h => h)
  have HB0 := hid B0; have HB1 := hid B1; clear B0 B1
  have f0 : w1.cell? ⟨w.heap.size, 0, none⟩ = some (.slice a n c) := blk_cell HB0.out 0
  have f1 : w1.cell? ⟨w.heap.size, 1, none⟩ = some (.int .i64 s.1) := blk_cell HB0.out 1
  have f2 : w1.frozen? ⟨w.heap.size, 0, none⟩ = false := blk_free HB0.out 0
  have f3 : w1.frozen? ⟨w.heap.size, 1, none⟩ = false := blk_free HB0.out 1
  have hk2 : Keeps (fun _ => False) w w1 := (((Keeps.refl _ w).alloc _).alloc _).trans hk1
  have HK1 := hid hk2; clear hk1 hk2
  have hz1w : w.heap.size + 1 < w1.heap.size := blk_lt HB1.out
  have hn : (u : Int) ≤ 9223372036854775807 := HN.out
  go_wp2
  generalize hW : World.setCell (World.setCell w1 _ _) _ _ = W
  have HBW0 : Hd (Blk W w.heap.size #[.slice a1 n1 c1, .int .i64 t.1] 30) := hid (by rw [← hW]; exact blk_set (blk_set HB0.out 0 _) 1 _)
  have HBW1 : Hd (Blk W (w.heap.size + 1) #[.slice none 0 0, .int .i64 0] 30) := hid (by rw [← hW]; exact blk_other (blk_other HB1.out (by omega) _ _) (by omega) _ _)
  have HKW : Hd (Keeps (fun k => w.heap.size ≤ k) w1 W) := hid (by rw [← hW]; repeat (first | (with_reducible assumption) | (with_reducible exact Keeps.refl _ _) | (with_reducible apply Keeps.drewN) | (with_reducible apply Keeps.drew) | (with_reducible apply Keeps.alloc) | refine Keeps.setCell ?_ (by first | (simp; done) | (simp; omega)) _))
  clear hW f0 f1 f2 f3
  have HRW := hid (hH1.out.keep HKW.out (fun b _ h => by omega))
  have hzW : w.heap.size + 1 < W.heap.size := by have := HKW.out.size; omega
  go_loopw [7, 8] (fun lv i wr => ∃ (k : Nat) (a2 : Option Addr) (c2 : Nat) (a3 : Option Addr) (n3 c3 : Nat) (t2 : St) (acc : List Int), k ≤ u ∧ k ≤ 1000000000001 ∧ lv = .slice a2 k c2 ∧ i = .int .i64 k ∧
      Hd (sLs most s = sLoop (u - k) t2 acc) ∧ Hd (acc.length = k) ∧ Hd (t2.1 = 0 → acc.length + t2.2.length ≤ 1000000000000) ∧
      Hd (Own (fun b => W.heap.size ≤ b) wr 3 1 (.slice a2 k c2) k (i64s acc)) ∧ Hd (RV (fun b => K b ∧ b < w.heap.size) wr (.agg #[.slice a3 n3 c3, .int .i64 t2.1]) t2) ∧
      Hd (Blk wr w.heap.size #[.slice a3 n3 c3, .int .i64 t2.1] 30) ∧ Hd (Blk wr (w.heap.size + 1) #[.slice none 0 0, .int .i64 0] 30) ∧ Hd (Keeps (fun k => w.heap.size ≤ k) W wr)) (fun _ i _ => u - (intOf i).toNat)
  case atStart => exact ⟨0, none, 0, a1, n1, c1, t, [], by omega, by omega, rfl, rfl, by simpa using HF, hid rfl, hid (fun _ => by have := HL0.out; simp; omega), hid (Own.nil _ _ _ _), HRW, HBW0, HBW1, hid (Keeps.refl _ _)⟩
  case round =>
    obtain ⟨k, a2, c2, a3, n3, c3, t2, acc, hk, hk2, rfl, rfl, hsl, hacc, htot, hown, hrv, hb0, hb1, hkeep⟩ := hrel
    have hzr : w.heap.size + 1 < wr.heap.size := blk_lt hb1.out
    have f0 : wr.cell? ⟨w.heap.size, 0, none⟩ = some (.slice a3 n3 c3) := blk_cell hb0.out 0
    have f1 : wr.cell? ⟨w.heap.size, 1, none⟩ = some (.int .i64 t2.1) := blk_cell hb0.out 1
    by_cases ht : t2.1 = 0
    · have HT := hid ht
      have t1 : (t2.1 == 0) = true := by simp; exact ht
      have t2' : (t2.1 != 0) = false := by simp; exact ht
      clear ht
      by_cases hlt : k < u
      · have hlt1 : (k : Int) < u := by omega
        have hkb : k + 1 ≤ 1000000000001 := by have h1 := hacc.out; have h2 := htot.out HT.out; omega
        go_wp2_with fail
        refine (VInt_any _ _ t2 _ hrv.out).mono ?_
        rintro e w3 ⟨v3, rfl, h3, h4⟩
        have HR3 := hid h3
        obtain ⟨a4, n4, c4, rfl⟩ := rv_form h3
        have HB3 := hid (blk_keep hb0.out h4 (fun h => h)); have HB4 := hid (blk_keep hb1.out h4 (fun h => h))
        have HO3 : Hd (Own (fun b => W.heap.size ≤ b) w3 3 1 (.slice a2 k c2) k (i64s acc)) := hid (hown.out.keep h4 (fun _ _ _ h => h))
        have hsI : Hd (sLs most s = sLoop (u - (k + 1)) (sI t2).1 (acc ++ [(sI t2).2])) := hid (by rw [hsl.out, show u - k = (u - (k + 1)) + 1 by omega, sLoop_one HT.out])
        have htot' : Hd ((sI t2).1.1 = 0 → (acc ++ [(sI t2).2]).length + (sI t2).1.2.length ≤ 1000000000000) := hid (fun h => by have h1 := sI_rest HT.out h; have h2 := htot.out HT.out; simp; omega)
        have H4 := hid h4
        clear h3 h4 f0 f1
        generalize (sI t2).2 = x at *
        generalize (sI t2).1 = t' at *
        have f0 : w3.cell? ⟨w.heap.size, 0, none⟩ = some (.slice a3 n3 c3) := blk_cell HB3.out 0
        have f1 : w3.cell? ⟨w.heap.size, 1, none⟩ = some (.int .i64 t2.1) := blk_cell HB3.out 1
        have f2 : w3.frozen? ⟨w.heap.size, 0, none⟩ = false := blk_free HB3.out 0
        have f3 : w3.frozen? ⟨w.heap.size, 1, none⟩ = false := blk_free HB3.out 1
        go_upto_region 8 with (fail)
        generalize hX : World.setCell (World.setCell w3 _ _) _ _ = X
        have HX0 : Hd (Blk X w.heap.size #[.slice a4 n4 c4, .int .i64 t'.1] 30) := hid (by rw [← hX]; exact blk_set (blk_set HB3.out 0 _) 1 _)
        have HX1 : Hd (Blk X (w.heap.size + 1) #[.slice none 0 0, .int .i64 0] 30) := hid (by rw [← hX]; exact blk_other (blk_other HB4.out (by omega) _ _) (by omega) _ _)
        have HKX : Hd (Keeps (fun k => w.heap.size ≤ k ∧ k < W.heap.size) w3 X) := hid (by rw [← hX]; repeat (first | (with_reducible assumption) | (with_reducible exact Keeps.refl _ _) | (with_reducible apply Keeps.drewN) | (with_reducible apply Keeps.drew) | (with_reducible apply Keeps.alloc) | refine Keeps.setCell ?_ (by first | (simp; done) | (simp; omega)) _))
        clear hX f0 f1 f2 f3
        have HOX := hid (HO3.out.keep HKX.out (fun b _ h => by omega))
        have HRX := hid (HR3.out.keep HKX.out (fun b _ h => by omega))
        go_wp2_with (at_builtin; refine wpList_append_row rfl _ _ 44 rfl 3 i0 (.int .i64 0) 1 8 Try.underlying44 hi hz0 hz1 hz2 rfl (by decide) _ (fun _ => True) _ _ _ _ rfl (HOX.out.alloc _) 1 _ rfl (src_one _ _ trivial) (by intro u hu; simp at hu; subst hu; rfl) ?h1 ?h2 ?_)
        case h1 => simp [maxLen]; omega
        case h2 => omega
        intro a5 cap5 w4 hown' hgrow; try intro _
        have H5 := hid hown'; clear hown'
        have HK5 : Hd (Keeps (fun b => W.heap.size ≤ b) X w4) := hid ((keeps_alloc _ X _).trans hgrow)
        clear hgrow
        have HR4 := hid (HRX.out.keep HK5.out (fun b _ h => by omega))
        have HB5 := hid (blk_keep HX0.out HK5.out (by omega)); have HB6 := hid (blk_keep HX1.out HK5.out (by omega))
        go_wp2
        go_roundw
        case rel =>
          refine ⟨k + 1, a5, cap5, a4, n4, c4, t', acc ++ [x], by omega, hkb, rfl, by go_num, hsI, hid (by simp [hacc.out]), htot', hid ?_, HR4, HB5, HB6, hid ?_⟩
          · have hs1 := hkeep.out.size
            have hs2 := H4.out.size
            have hs3 := HKX.out.size
            have := H5.out.mono (K' := fun b => W.heap.size ≤ b) (fun b _ hb => by rcases hb with hb | hb <;> omega)
            simpa [i64s] using this
          · exact ((hkeep.out.trans' H4.out (fun _ _ h => h.elim)).trans' HKX.out (fun i hi hh => hh.1)).trans' HK5.out (fun i hi hh => by omega)
        case measure => simp [intOf]; omega
      · obtain rfl : k = u := by omega
        have HFF : Hd (sL most s = (t2, acc)) := hid (by
            have h1 := hsl.out
            rw [show k - k = 0 by omega, sLoop] at h1
            rw [sL, h1, if_pos HT.out])
        have f4 : wr.cell? ⟨w.heap.size + 1, 0, none⟩ = some (.slice none 0 0) := blk_cell hb1.out 0
        have f5 : wr.cell? ⟨w.heap.size + 1, 1, none⟩ = some (.int .i64 0) := blk_cell hb1.out 1
        have f6 : wr.frozen? ⟨w.heap.size + 1, 0, none⟩ = false := blk_free hb1.out 0
        have f7 : wr.frozen? ⟨w.heap.size + 1, 1, none⟩ = false := blk_free hb1.out 1
        go_wp2
        refine bodyPost_ret (v := .tuple #[.agg #[.slice a3 n3 c3, .int .i64 t2.1], .slice a2 k c2]) (by simp [results, Try.results29, go_sem, f4, f5]) rfl ?_
        have hk6 := hkeep.out
        refine ⟨_, a2, k, c2, rfl, by rw [HFF.out]; exact hacc.out.symm, ?_, ?_, (HK1.out.after HKW.out).after (by repeat (first | (with_reducible assumption) | (with_reducible exact Keeps.refl _ _) | (with_reducible apply Keeps.drewN) | (with_reducible apply Keeps.drew) | (with_reducible apply Keeps.alloc) | refine Keeps.setCell ?_ (by first | (simp; done) | (simp; omega)) _))⟩
        · rw [HFF.out]
          have h10 : Sl (fun b => W.heap.size ≤ b) wr (.slice a2 k c2) (i64s acc) := row_sl hown.out.row (by simp only [i64s_length]; exact hacc.out)
          exact (h10.keep (S := fun k => k < W.heap.size) (by repeat (first | (with_reducible assumption) | (with_reducible exact Keeps.refl _ _) | (with_reducible apply Keeps.drewN) | (with_reducible apply Keeps.drew) | (with_reducible apply Keeps.alloc) | refine Keeps.setCell ?_ (by first | (simp; done) | (simp; omega)) _)) (fun b _ h => by omega)).mono (fun b _ h => by omega)
        · rw [HFF.out]
          exact (hrv.out.keep (S := fun k => w.heap.size ≤ k) (by repeat (first | (with_reducible assumption) | (with_reducible exact Keeps.refl _ _) | (with_reducible apply Keeps.drewN) | (with_reducible apply Keeps.drew) | (with_reducible apply Keeps.alloc) | refine Keeps.setCell ?_ (by first | (simp; done) | (simp; omega)) _)) (fun b _ h => by omega)).mono (fun _ _ h => h.1)
    · have HFF : Hd (sL most s = (t2, [])) := hid (by
            have h1 := hsl.out
            rw [sLoop_err ht] at h1
            rw [sL, h1, if_neg ht])
      have t1 : (t2.1 == 0) = false := by simp; exact ht
      have t2' : (t2.1 != 0) = true := by simp; exact ht
      clear ht
      have f4 : wr.cell? ⟨w.heap.size + 1, 0, none⟩ = some (.slice none 0 0) := blk_cell hb1.out 0
      have f5 : wr.cell? ⟨w.heap.size + 1, 1, none⟩ = some (.int .i64 0) := blk_cell hb1.out 1
      have f6 : wr.frozen? ⟨w.heap.size + 1, 0, none⟩ = false := blk_free hb1.out 0
      have f7 : wr.frozen? ⟨w.heap.size + 1, 1, none⟩ = false := blk_free hb1.out 1
      by_cases hlt : k < u
      all_goals
        go_wp2
        refine bodyPost_ret (v := .tuple #[.agg #[.slice a3 n3 c3, .int .i64 t2.1], .slice none 0 0]) (by simp [results, Try.results29, go_sem, f4, f5]) rfl ?_
        have hk6 := hkeep.out
        refine ⟨_, none, 0, 0, rfl, by rw [HFF.out]; rfl, by rw [HFF.out]; exact Sl.nil _ _, ?_, (HK1.out.after HKW.out).after (by repeat (first | (with_reducible assumption) | (with_reducible exact Keeps.refl _ _) | (with_reducible apply Keeps.drewN) | (with_reducible apply Keeps.drew) | (with_reducible apply Keeps.alloc) | refine Keeps.setCell ?_ (by first | (simp; done) | (simp; omega)) _))⟩
        rw [HFF.out]
        exact (hrv.out.keep (S := fun k => w.heap.size ≤ k) (by repeat (first | (with_reducible assumption) | (with_reducible exact Keeps.refl _ _) | (with_reducible apply Keeps.drewN) | (with_reducible apply Keeps.drew) | (with_reducible apply Keeps.alloc) | refine Keeps.setCell ?_ (by first | (simp; done) | (simp; omega)) _)) (fun b _ h => by omega)).mono (fun _ _ h => h.1)
set_option maxRecDepth 100000 in set_option maxHeartbeats 400000 in
theorem VEnd_any (K : Nat → Prop) (v : Value) (s : St) (w : World) (h : RV K w v s) :
    Calls Try.prog 20 #[v] w fun e w' => e = .returned (.int .i64 (sEnd s)) ∧ Keeps (fun _ => False) w w' := by
  obtain ⟨bv, l, rfl, h1, h2, h3, h4⟩ := h
  obtain ⟨a, c, rfl, _⟩ := h1.bytes
  obtain ⟨e0, l0⟩ := s
  simp only at h4 ⊢
  clear h1
  by_cases he : e0 = 0
  · subst he
    have hl := h4 rfl
    subst hl
    clear h4
    have HF : Hd (sEnd (0, l0) = if 0 < l0.length then 7 else 0) := hid (by simp [sEnd])
    generalize l0.length = m at *
    by_cases hm : 0 < m
    · rw [if_pos hm] at HF
      have hm1 : (0 : Int) < (m : Int) := by omega
      go_enter Try.func20, Try.ntmps20
      go_wp2
      go_ret
      exact ⟨ret_int HF.out.symm, (by repeat (first | (with_reducible assumption) | (with_reducible exact Keeps.refl _ _) | (with_reducible apply Keeps.drewN) | (with_reducible apply Keeps.drew) | (with_reducible apply Keeps.alloc) | refine Keeps.setCell ?_ (by first | (simp; done) | (simp; omega)) _))⟩
    · rw [if_neg hm] at HF
      obtain rfl : m = 0 := by omega
      go_enter Try.func20, Try.ntmps20
      go_wp2
      go_ret
      exact ⟨ret_int HF.out.symm, (by repeat (first | (with_reducible assumption) | (with_reducible exact Keeps.refl _ _) | (with_reducible apply Keeps.drewN) | (with_reducible apply Keeps.drew) | (with_reducible apply Keeps.alloc) | refine Keeps.setCell ?_ (by first | (simp; done) | (simp; omega)) _))⟩
  · have HF : Hd (sEnd (e0, l0) = e0) := hid (by simp [sEnd, he])
    have t1 : (e0 == 0) = false := by simp; exact he
    clear he h4
    go_enter Try.func20, Try.ntmps20
    go_wp2
    go_ret
    exact ⟨ret_int HF.out.symm, (by repeat (first | (with_reducible assumption) | (with_reducible exact Keeps.refl _ _) | (with_reducible apply Keeps.drewN) | (with_reducible apply Keeps.drew) | (with_reducible apply Keeps.alloc) | refine Keeps.setCell ?_ (by first | (simp; done) | (simp; omega)) _))⟩
end Go.Proofs.Ytlebocjcelbbpaa
