/- The walks of the reference's reader (package perigeeref02): byte slices and lists. -/
import Derived.Test.YthoikljmokkchaaDoorWireG
import Derived.Deep.Cut
namespace Go.Proofs.YthoikljmokkchaaDoor.Wi
open Go.RowKit

def VBPost (K : Nat → Prop) (w : World) (most : Int) (s : St) (r : Ending) (w' : World) : Prop :=
  ∃ v a n c, r = .returned (.tuple #[v, .slice a n c]) ∧ n = (sB most s).2.length ∧ Sl (fun k => w.heap.size ≤ k) w' (.slice a n c) (u8s (sB most s).2) ∧ RV K w' v (sB most s).1 ∧ Keeps (fun _ => False) w w'
set_option maxRecDepth 100000 in set_option maxHeartbeats 1000000 in
theorem VBytes_any (K : Nat → Prop) (v : Value) (most : Int) (s : St) (w : World) (h : RV K w v s) (hmo : most ≤ 9223372036854775807) :
    Calls Tryd.prog 92 #[v, .int .i64 most] w fun e w' => VBPost K w most s e w' := by
  obtain ⟨i0, hi, hz0, hz1, hz2⟩ := info_parts infoU8
  have HMO := hid hmo; clear hmo
  have HR := hid h
  obtain ⟨a, n, c, rfl⟩ := rv_form h
  clear h
  have HR2 : Hd (RV (fun b => K b ∧ b < w.heap.size) ((w.alloc (.cells #[.slice a n c, .int .i64 s.1] 118)).alloc (.cells #[.slice none 0 0, .int .i64 0] 118)) (.agg #[.slice a n c, .int .i64 s.1]) s) := hid (HR.out.old.keep (S := fun _ => False) (by repeat (first | (with_reducible assumption) | (with_reducible exact Keeps.refl _ _) | (with_reducible apply Keeps.drewN) | (with_reducible apply Keeps.drew) | (with_reducible apply Keeps.alloc) | refine Keeps.setCell ?_ (by first | (simp; done) | (simp; omega)) _)) (fun _ _ _ h => h))
  go_enter Tryd.func92, Tryd.ntmps92
  go_wp2_with fail
  refine (VSize_any _ _ most s _ HR2.out HMO.out).mono ?_
  rintro e w1 ⟨v1, rfl, h1, hk1⟩
  have hH1 := hid h1
  obtain ⟨a1, n1, c1, rfl⟩ := rv_form h1
  have HF : Hd (sB most s = if (sSize most s).1.1 = 0 then
    (if (sSize most s).1.2.length < (sSize most s).2 then ((6, (sSize most s).1.2), []) else ((0, (sSize most s).1.2.drop (sSize most s).2), (sSize most s).1.2.take (sSize most s).2))
  else ((sSize most s).1, [])) := hid (by unfold sB; rfl)
  have HN : Hd (((sSize most s).2 : Int) ≤ 9223372036854775807) := hid (by have := HMO.out; rcases sSize_le most s with h | h <;> omega)
  generalize hu : (sSize most s).2 = u at *
  clear hu
  generalize ht : (sSize most s).1 = t at *
  clear ht
  have B0 := blk_keep (blk_alloc (blk_new w #[.slice a n c, .int .i64 s.1] 118) (.cells #[.slice none 0 0, .int .i64 0] 118)) hk1 (fun h => h)
  have B1 := blk_keep (blk_new' (w.alloc (.cells #[.slice a n c, .int .i64 s.1] 118)) #[.slice none 0 0, .int .i64 0] 118 (w.heap.size + 1) (by simp)) hk1 (fun h => h)
  have HB0 := hid B0; have HB1 := hid B1; clear B0 B1
  have f0 : w1.cell? ⟨w.heap.size, 0, none⟩ = some (.slice a n c) := blk_cell HB0.out 0
  have f1 : w1.cell? ⟨w.heap.size, 1, none⟩ = some (.int .i64 s.1) := blk_cell HB0.out 1
  have f2 : w1.frozen? ⟨w.heap.size, 0, none⟩ = false := blk_free HB0.out 0
  have f3 : w1.frozen? ⟨w.heap.size, 1, none⟩ = false := blk_free HB0.out 1
  have f4 : w1.cell? ⟨w.heap.size + 1, 0, none⟩ = some (.slice none 0 0) := blk_cell HB1.out 0
  have f5 : w1.cell? ⟨w.heap.size + 1, 1, none⟩ = some (.int .i64 0) := blk_cell HB1.out 1
  have f6 : w1.frozen? ⟨w.heap.size + 1, 0, none⟩ = false := blk_free HB1.out 0
  have f7 : w1.frozen? ⟨w.heap.size + 1, 1, none⟩ = false := blk_free HB1.out 1
  have hk2 : Keeps (fun _ => False) w w1 := (((Keeps.refl _ w).alloc _).alloc _).trans hk1
  have HK1 := hid hk2; clear hk1 hk2
  obtain ⟨e0, l0⟩ := t
  simp only at HF hH1 h1 ⊢
  by_cases he : e0 = 0
  · subst he
    rw [if_pos rfl] at HF
    have hln : n1 = l0.length := by
      obtain ⟨bv, l2, g1, g2, g3, g4, g5⟩ := h1
      simp at g1
      subst g1
      have := g5 rfl
      simp only at this
      subst this
      have h := g2.1
      obtain ⟨_, cc, h5, _⟩ := g2.bytes
      injection h5
    subst hln
    obtain ⟨hS1, hL1, hB1⟩ : Sl (fun b => K b ∧ b < w.heap.size) w1 (.slice a1 l0.length c1) (u8s l0) ∧ l0.length ≤ 140737488355000 ∧ ∀ c ∈ l0, c < 256 := by
      obtain ⟨bv, l2, g1, g2, g3, g4, g5⟩ := h1
      simp at g1
      subst g1
      have := g5 rfl
      simp only at this
      subst this
      exact ⟨g2, g3, g4⟩
    have HS1 := hid hS1; have HLB := hid hB1
    clear h1 hS1 hB1
    generalize hm : l0.length = m at *
    have HM := hid hm; clear hm
    by_cases hlt : m < u
    · rw [if_pos hlt] at HF
      have hq : (m : Int) < u := by omega
      go_wp2_with fail
      refine (Vfail_any a1 m c1 0 6 _).mono ?_
      rintro e w2 ⟨rfl, hk3⟩
      have B0 := blk_keep (blk_set (blk_set HB0.out 0 (.slice a1 m c1)) 1 (.int .i64 0)) hk3 (fun h => h)
      have B1 := blk_keep (blk_other (blk_other HB1.out (c := w.heap.size) (by omega) 0 (.slice a1 m c1)) (c := w.heap.size) (by omega) 1 (.int .i64 0)) hk3 (fun h => h)
      have g0 : w2.cell? ⟨w.heap.size, 0, none⟩ = some (.slice a1 m c1) := blk_cell B0 0
      have g1 : w2.cell? ⟨w.heap.size, 1, none⟩ = some (.int .i64 0) := blk_cell B0 1
      have g2 : w2.frozen? ⟨w.heap.size, 0, none⟩ = false := blk_free B0 0
      have g3 : w2.frozen? ⟨w.heap.size, 1, none⟩ = false := blk_free B0 1
      have g4 : w2.cell? ⟨w.heap.size + 1, 0, none⟩ = some (.slice none 0 0) := blk_cell B1 0
      have g5 : w2.cell? ⟨w.heap.size + 1, 1, none⟩ = some (.int .i64 0) := blk_cell B1 1
      have g6 : w2.frozen? ⟨w.heap.size + 1, 0, none⟩ = false := blk_free B1 0
      have g7 : w2.frozen? ⟨w.heap.size + 1, 1, none⟩ = false := blk_free B1 1
      have hk4 : Keeps (fun k => w.heap.size ≤ k) w1 w2 := by
        refine Keeps.trans' ?_ hk3 (fun _ _ h => h.elim)
        repeat (first | (with_reducible assumption) | (with_reducible exact Keeps.refl _ _) | (with_reducible apply Keeps.drewN) | (with_reducible apply Keeps.drew) | (with_reducible apply Keeps.alloc) | refine Keeps.setCell ?_ (by first | (simp; done) | (simp; omega)) _)
      have HK4 := hid hk4; clear hk4 B0 B1 hk3 f0 f1 f2 f3 f4 f5 f6 f7
      go_wp2
      refine bodyPost_ret (v := .tuple #[.agg #[.slice a1 m c1, .int .i64 6], .slice none 0 0]) (by simp [results, Tryd.results92, go_sem, g4, g5]) rfl ?_
      have hk5 := HK4.out
      refine ⟨_, none, 0, 0, rfl, by rw [HF.out]; rfl, by rw [HF.out]; exact Sl.nil _ _, ?_, HK1.out.after (by repeat (first | (with_reducible assumption) | (with_reducible exact Keeps.refl _ _) | (with_reducible apply Keeps.drewN) | (with_reducible apply Keeps.drew) | (with_reducible apply Keeps.alloc) | refine Keeps.setCell ?_ (by first | (simp; done) | (simp; omega)) _))⟩
      rw [HF.out]
      exact rv_err ((hH1.out.keep (S := fun k => w.heap.size ≤ k) (by repeat (first | (with_reducible assumption) | (with_reducible exact Keeps.refl _ _) | (with_reducible apply Keeps.drewN) | (with_reducible apply Keeps.drew) | (with_reducible apply Keeps.alloc) | refine Keeps.setCell ?_ (by first | (simp; done) | (simp; omega)) _)) (fun b _ h => by omega)).mono (fun _ _ h => h.1)) 6 (by simp)
    · rw [if_neg hlt] at HF
      have hq : (u : Int) ≤ m := by omega
      have hz : w.heap.size + 1 < w1.heap.size := blk_lt HB1.out
      clear hlt
      go_upto_region 6 with (fail)
      generalize hW : World.setCell (World.setCell w1 _ _) _ _ = W
      have B0 : Blk W w.heap.size #[.slice a1 m c1, .int .i64 0] 118 := by rw [← hW]; exact blk_set (blk_set HB0.out 0 _) 1 _
      have B1 : Blk W (w.heap.size + 1) #[.slice none 0 0, .int .i64 0] 118 := by rw [← hW]; exact blk_other (blk_other HB1.out (by omega) _ _) (by omega) _ _
      have HKW : Hd (Keeps (fun k => w.heap.size ≤ k) w1 W) := hid (by rw [← hW]; repeat (first | (with_reducible assumption) | (with_reducible exact Keeps.refl _ _) | (with_reducible apply Keeps.drewN) | (with_reducible apply Keeps.drew) | (with_reducible apply Keeps.alloc) | refine Keeps.setCell ?_ (by first | (simp; done) | (simp; omega)) _))
      clear hW f0 f1 f2 f3 f4 f5 f6 f7
      have hrow : Row (fun b => K b ∧ b < w.heap.size) W 1 (.slice a1 m c1) m (u8s l0) := by
        exact sl_row (HS1.out.keep HKW.out (fun b _ h => by omega)) (by simp [HM.out])
      obtain ⟨a2, c2, hcut, hrow2⟩ := run_cut_to (P := Tryd.prog) (t := 22) Tryd.underlying22 hi hz1 hrow (hh := (u : Int)) u rfl (by omega)
      obtain ⟨a3, c3, hcut3, hrow3⟩ := run_cut_from (P := Tryd.prog) (t := 22) Tryd.underlying22 hi hz1 hrow (lo := (u : Int)) u rfl (by omega)
      have HR2' := hid hrow2; have HR3 := hid hrow3; clear hrow hrow2 hrow3
      have HOW : Hd (Own (fun k => W.heap.size ≤ k) (W.alloc (.cells #[] 5)) 5 1 (.slice (some ⟨W.heap.size, 0, none⟩) 0 0) 0 []) :=
        hid ⟨World.ownsRow_lit W #[] 0 (Nat.zero_le _) (Nat.zero_le _) rfl, fun k hk => by injection hk with hk; simp at hk; omega⟩
      have HRA : Hd (Row (fun b => K b ∧ b < w.heap.size) (W.alloc (.cells #[] 5)) 1 (.slice a2 u c2) u (u8s (l0.take u))) := hid (by
        have := HR2'.out.keep (keeps_alloc (fun _ => False) W (.cells #[] 5)) (fun _ _ _ h => h)
        rw [show (u8s l0).take (u * 1) = u8s (l0.take u) by simp [u8s, List.map_take]] at this
        exact this)
      have hzW : w.heap.size + 1 < W.heap.size := blk_lt B1
      have hzV : w.heap.size < W.heap.size := by omega
      have f0 : W.cell? ⟨w.heap.size, 0, none⟩ = some (.slice a1 m c1) := blk_cell B0 0
      have HB0' := hid B0; have HB1' := hid B1; clear B0 B1 HB0 HB1
      have hml : m ≤ 140737488355000 := hL1
      go_wp2_with (at_builtin; refine wpList_append_row rfl _ _ 22 rfl 5 i0 (.int .u8 0) 1 1 Tryd.underlying22 hi hz0 hz1 hz2 rfl (by decide) _ (fun b => K b ∧ b < w.heap.size) _ _ _ _ rfl HOW.out u _ rfl HRA.out (u8s_one _) ?h1 ?h2 ?_)
      case h1 => simp [maxLen]; omega
      case h2 => omega
      intro a4 c4 w3 hown' hgrow; try intro _
      try simp only [Nat.zero_add] at hown'
      have hkg : Keeps (fun k => W.heap.size ≤ k) W w3 := (keeps_alloc _ W _).trans hgrow
      have B0 := blk_keep HB0'.out hkg (by omega)
      have B1 := blk_keep HB1'.out hkg (by omega)
      clear f0
      have f0 : w3.cell? ⟨w.heap.size, 0, none⟩ = some (.slice a1 m c1) := blk_cell B0 0
      have f1 : w3.cell? ⟨w.heap.size, 1, none⟩ = some (.int .i64 0) := blk_cell B0 1
      have f2 : w3.frozen? ⟨w.heap.size, 0, none⟩ = false := blk_free B0 0
      have f3 : w3.frozen? ⟨w.heap.size, 1, none⟩ = false := blk_free B0 1
      have f4 : w3.cell? ⟨w.heap.size + 1, 0, none⟩ = some (.slice none 0 0) := blk_cell B1 0
      have f5 : w3.cell? ⟨w.heap.size + 1, 1, none⟩ = some (.int .i64 0) := blk_cell B1 1
      have f6 : w3.frozen? ⟨w.heap.size + 1, 0, none⟩ = false := blk_free B1 0
      have f7 : w3.frozen? ⟨w.heap.size + 1, 1, none⟩ = false := blk_free B1 1
      have HO3 := hid hown'; have HKG := hid hkg
      clear hown' hgrow hkg B0 B1
      go_wp2
      refine bodyPost_ret (v := .tuple #[.agg #[.slice a3 (m - u) c3, .int .i64 0], .slice a4 u c4]) (by simp [results, Tryd.results92, go_sem, f4, f5]) rfl ?_
      have hk6 : Keeps (fun k => w.heap.size ≤ k) W w3 := HKG.out.mono (fun i _ h => by omega)
      have hlu : (l0.take u).length = u := by rw [List.length_take, HM.out]; omega
      refine ⟨_, a4, u, c4, rfl, by rw [HF.out]; exact hlu.symm, ?_, ?_, (HK1.out.after HKW.out).after (by repeat (first | (with_reducible assumption) | (with_reducible exact Keeps.refl _ _) | (with_reducible apply Keeps.drewN) | (with_reducible apply Keeps.drew) | (with_reducible apply Keeps.alloc) | refine Keeps.setCell ?_ (by first | (simp; done) | (simp; omega)) _))⟩
      · rw [HF.out]
        have h9 := HO3.out.row
        have h10 : Sl (fun k => W.heap.size ≤ k) w3 (.slice a4 u c4) (u8s (l0.take u)) := row_sl (h9.mono (fun b _ hb => by rcases hb with hb | hb <;> first | exact hb | (simp at hb; omega) | omega)) (by simp only [u8s_length]; exact hlu)
        exact (h10.keep (S := fun k => k < W.heap.size) (by repeat (first | (with_reducible assumption) | (with_reducible exact Keeps.refl _ _) | (with_reducible apply Keeps.drewN) | (with_reducible apply Keeps.drew) | (with_reducible apply Keeps.alloc) | refine Keeps.setCell ?_ (by first | (simp; done) | (simp; omega)) _)) (fun b _ h => by omega)).mono (fun b _ h => by omega)
      · rw [HF.out]
        have h9 : Sl (fun b => K b ∧ b < w.heap.size) W (.slice a3 (m - u) c3) (u8s (l0.drop u)) := by
          have h10 := HR3.out
          rw [show ((u8s l0).drop (u * 1)).take ((m - u) * 1) = u8s (l0.drop u) by rw [List.take_of_length_le (by simp [HM.out])]; simp [u8s, List.map_drop]] at h10
          exact row_sl h10 (by simp [HM.out])
        have h11 : RV (fun b => K b ∧ b < w.heap.size) W (.agg #[.slice a3 (m - u) c3, .int .i64 0]) (0, l0.drop u) := ⟨_, l0.drop u, rfl, h9, by simp [HM.out]; omega, fun x hx => HLB.out x (List.mem_of_mem_drop hx), fun _ => rfl⟩
        exact (h11.keep (S := fun k => w.heap.size ≤ k) (by repeat (first | (with_reducible assumption) | (with_reducible exact Keeps.refl _ _) | (with_reducible apply Keeps.drewN) | (with_reducible apply Keeps.drew) | (with_reducible apply Keeps.alloc) | refine Keeps.setCell ?_ (by first | (simp; done) | (simp; omega)) _)) (fun b _ h => by omega)).mono (fun _ _ h => h.1)
  · rw [if_neg he] at HF
    have HE := hid he
    have t1 : (e0 == 0) = false := by simp; exact he
    have t2 : (e0 != 0) = true := by simp; exact he
    clear he h1
    go_wp2
    refine bodyPost_ret (v := .tuple #[.agg #[.slice a1 n1 c1, .int .i64 e0], .slice none 0 0]) (by simp [results, Tryd.results92, go_sem, f4, f5]) rfl ?_
    refine ⟨_, none, 0, 0, rfl, by rw [HF.out]; rfl, by rw [HF.out]; exact Sl.nil _ _, ?_, HK1.out.after (by repeat (first | (with_reducible assumption) | (with_reducible exact Keeps.refl _ _) | (with_reducible apply Keeps.drewN) | (with_reducible apply Keeps.drew) | (with_reducible apply Keeps.alloc) | refine Keeps.setCell ?_ (by first | (simp; done) | (simp; omega)) _))⟩
    rw [HF.out]
    exact (hH1.out.keep (S := fun k => w.heap.size ≤ k) (by repeat (first | (with_reducible assumption) | (with_reducible exact Keeps.refl _ _) | (with_reducible apply Keeps.drewN) | (with_reducible apply Keeps.drew) | (with_reducible apply Keeps.alloc) | refine Keeps.setCell ?_ (by first | (simp; done) | (simp; omega)) _)) (fun b _ h => by omega)).mono (fun _ _ h => h.1)
end Go.Proofs.YthoikljmokkchaaDoor.Wi
