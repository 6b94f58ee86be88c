/- The walks of the reference's reader (package perigeeref02), on. -/
import Derived.Test.YthoikljmokkchaaDoorWireF
namespace Go.Proofs.YthoikljmokkchaaDoor.Wi
open Go.RowKit

set_option maxRecDepth 100000 in set_option maxHeartbeats 400000 in
theorem Zag_any (u : Nat) (w : World) (hu : u ≤ 18446744073709551615) :
    Calls Tryd.prog 114 #[.int .u64 u] w fun e w' => e = .returned (.int .i64 (zag u)) ∧ w = w' := by
  have HU := hid hu; clear hu
  by_cases h : u % 2 = 0
  · have HF : Hd (zag u = wrap64 (IntKind.u64.wrap ((u : Int) / 2))) := hid (by have := HU.out; simp only [zag, if_pos h, wrap_u64]; unfold wrap64; omega)
    have t1 : ((u : Int) % 2 == 0) = true := by simp; omega
    clear h
    go_enter Tryd.func114, Tryd.ntmps114
    go_wp2
    go_ret
    exact ⟨ret_int HF.out.symm, rfl⟩
  · have HF : Hd (zag u = wrap64 (wrap64 (-wrap64 (IntKind.u64.wrap ((u : Int) / 2))) - 1)) := hid (by have := HU.out; simp only [zag, if_neg h, wrap_u64]; unfold wrap64; omega)
    have t1 : ((u : Int) % 2 == 0) = false := by simp; omega
    clear h
    go_enter Tryd.func114, Tryd.ntmps114
    go_wp2
    go_ret
    exact ⟨ret_int HF.out.symm, rfl⟩

def VIPost (K : Nat → Prop) (w : World) (s : St) (r : Ending) (w' : World) : Prop := ∃ v, r = .returned (.tuple #[v, .int .i64 (sI s).2]) ∧ RV K w' v (sI s).1 ∧ Keeps (fun _ => False) w w'
theorem rv_form {K : Nat → Prop} {w : World} {v : Value} {s : St} (h : RV K w v s) : ∃ a n c, v = .agg #[.slice a n c, .int .i64 s.1] := by
  obtain ⟨bv, l, rfl, h1, _⟩ := h
  obtain ⟨a, c, rfl, _⟩ := h1.bytes
  exact ⟨a, _, c, rfl⟩
set_option maxRecDepth 100000 in set_option maxHeartbeats 400000 in
theorem VInt_any (K : Nat → Prop) (v : Value) (s : St) (w : World) (h : RV K w v s) :
    Calls Tryd.prog 91 #[v] w fun e w' => VIPost K w s e w' := by
  have HR := hid h
  obtain ⟨a, n, c, rfl⟩ := rv_form h
  clear h
  have HU := hid (sU_lt s)
  have HR2 : Hd (RV (fun b => K b ∧ b < w.heap.size) ((w.alloc (.cells #[.slice a n c, .int .i64 s.1] 118)).alloc (.cells #[.slice none 0 0, .int .i64 0] 118)) (.agg #[.slice a n c, .int .i64 s.1]) s) := hid (HR.out.old.keep (S := fun _ => False) (by repeat (first | (with_reducible assumption) | (with_reducible exact Keeps.refl _ _) | (with_reducible apply Keeps.drewN) | (with_reducible apply Keeps.drew) | (with_reducible apply Keeps.alloc) | refine Keeps.setCell ?_ (by first | (simp; done) | (simp; omega)) _)) (fun _ _ _ h => h))
  go_enter Tryd.func91, Tryd.ntmps91
  go_wp2_with fail
  refine (VUint_any _ _ s _ HR2.out).mono ?_
  rintro e w1 ⟨v1, rfl, h1, hk1⟩
  have hH1 := hid h1
  obtain ⟨a1, n1, c1, rfl⟩ := rv_form h1
  clear h1
  generalize hu : (sU s).2 = u at *
  have HEU := hid hu; clear hu
  generalize ht : (sU s).1 = t at *
  have HET := hid ht; clear ht
  have B0 := blk_keep (blk_alloc (blk_new w #[.slice a n c, .int .i64 s.1] 118) (.cells #[.slice none 0 0, .int .i64 0] 118)) hk1 (fun h => h)
  have B1 := blk_keep (blk_new' (w.alloc (.cells #[.slice a n c, .int .i64 s.1] 118)) #[.slice none 0 0, .int .i64 0] 118 (w.heap.size + 1) (by simp)) hk1 (fun h => h)
  have HB0 := hid B0; have HB1 := hid B1; clear B0 B1
  have f0 : w1.cell? ⟨w.heap.size, 0, none⟩ = some (.slice a n c) := blk_cell HB0.out 0
  have f1 : w1.cell? ⟨w.heap.size, 1, none⟩ = some (.int .i64 s.1) := blk_cell HB0.out 1
  have f2 : w1.frozen? ⟨w.heap.size, 0, none⟩ = false := blk_free HB0.out 0
  have f3 : w1.frozen? ⟨w.heap.size, 1, none⟩ = false := blk_free HB0.out 1
  have HK1 := hid hk1; clear hk1
  go_wp2
  generalize hW : World.setCell (World.setCell w1 _ _) _ _ = W
  have B0 : Blk W w.heap.size #[.slice a1 n1 c1, .int .i64 t.1] 118 := by rw [← hW]; exact blk_set (blk_set HB0.out 0 _) 1 _
  have B1 : Blk W (w.heap.size + 1) #[.slice none 0 0, .int .i64 0] 118 := by rw [← hW]; exact blk_other (blk_other HB1.out (by omega) _ _) (by omega) _ _
  have HKW : Hd (Keeps (fun k => w.heap.size ≤ k) w1 W) := hid (by rw [← hW]; repeat (first | (with_reducible assumption) | (with_reducible exact Keeps.refl _ _) | (with_reducible apply Keeps.drewN) | (with_reducible apply Keeps.drew) | (with_reducible apply Keeps.alloc) | refine Keeps.setCell ?_ (by first | (simp; done) | (simp; omega)) _))
  clear hW f0 f1 f2 f3
  have f0 : W.cell? ⟨w.heap.size, 0, none⟩ = some (.slice a1 n1 c1) := blk_cell B0 0
  have f1 : W.cell? ⟨w.heap.size, 1, none⟩ = some (.int .i64 t.1) := blk_cell B0 1
  have f4 : W.cell? ⟨w.heap.size + 1, 0, none⟩ = some (.slice none 0 0) := blk_cell B1 0
  have f5 : W.cell? ⟨w.heap.size + 1, 1, none⟩ = some (.int .i64 0) := blk_cell B1 1
  have f6 : W.frozen? ⟨w.heap.size + 1, 0, none⟩ = false := blk_free B1 0
  have f7 : W.frozen? ⟨w.heap.size + 1, 1, none⟩ = false := blk_free B1 1
  have HZ := hid (fun W => Zag_any u W HU.out)
  refine wp_region_still_tail 3 (by kernel_rfl) (by kernel_rfl) ?_
  simp only [List.take_succ_cons, List.take_zero, List.drop_succ_cons, List.drop_zero]
  still_step
  still_step
  still_call ((HZ.out _).mono fun _ _ h => ⟨h.1, h.2.symm⟩)
  refine wpStill_nil ?_
  change wpList _ _ _ _ _ W.drew
  go_wp2
  refine bodyPost_ret (v := .tuple #[.agg #[.slice a1 n1 c1, .int .i64 t.1], .int .i64 (zag u)]) (by simp [results, Tryd.results91, go_sem, f4, f5]) rfl ?_
  have hkw1 : Keeps (fun _ => False) w W := ((((Keeps.refl _ w).alloc _).alloc _).trans HK1.out).after HKW.out
  have hk2 : Keeps (fun k => w.heap.size + 1 ≤ k) W ((W.drew.setCell ⟨w.heap.size + 1, 0, none⟩ (.slice a1 n1 c1)).setCell ⟨w.heap.size + 1, 1, none⟩ (.int .i64 t.1)) := by repeat (first | (with_reducible assumption) | (with_reducible exact Keeps.refl _ _) | (with_reducible apply Keeps.drewN) | (with_reducible apply Keeps.drew) | (with_reducible apply Keeps.alloc) | refine Keeps.setCell ?_ (by first | (simp; done) | (simp; omega)) _)
  refine ⟨_, by rw [show (sI s).2 = zag u by rw [← HEU.out]; rfl], ?_, hkw1.after (hk2.mono (fun i _ h => by omega))⟩
  rw [show (sI s).1 = t from HET.out]
  exact ((hH1.out.keep HKW.out (fun b _ h => by omega)).keep hk2 (fun b _ h => by omega)).mono (fun _ _ h => h.1)

theorem rv_err {K : Nat → Prop} {w : World} {a : Option Addr} {n c : Nat} {e : Int} {l l' : List Nat} (h : RV K w (.agg #[.slice a n c, .int .i64 e]) (e, l)) (e' : Int) (he : e' ≠ 0) : RV K w (.agg #[.slice a n c, .int .i64 e']) (e', l') := by
  obtain ⟨bv, l2, h1, h2, h3, h4, _⟩ := h
  simp at h1
  exact ⟨bv, l2, by simp [h1], h2, h3, h4, fun h => absurd h he⟩
def VSPost (K : Nat → Prop) (w : World) (most : Int) (s : St) (r : Ending) (w' : World) : Prop := ∃ v, r = .returned (.tuple #[v, .int .i64 ((sSize most s).2 : Nat)]) ∧ RV K w' v (sSize most s).1 ∧ Keeps (fun _ => False) w w'
set_option maxRecDepth 100000 in set_option maxHeartbeats 1000000 in
theorem VSize_any (K : Nat → Prop) (v : Value) (most : Int) (s : St) (w : World) (h : RV K w v s) (hmo : most ≤ 9223372036854775807) :
    Calls Tryd.prog 115 #[v, .int .i64 most] w fun e w' => VSPost K w most s e w' := by
  have HMO := hid hmo; clear hmo
  have HR := hid h
  obtain ⟨a, n, c, rfl⟩ := rv_form h
  clear h
  have HU := hid (sU_lt s)
  have HR2 : Hd (RV (fun b => K b ∧ b < w.heap.size) ((w.alloc (.cells #[.slice a n c, .int .i64 s.1] 118)).alloc (.cells #[.slice none 0 0, .int .i64 0] 118)) (.agg #[.slice a n c, .int .i64 s.1]) s) := hid (HR.out.old.keep (S := fun _ => False) (by repeat (first | (with_reducible assumption) | (with_reducible exact Keeps.refl _ _) | (with_reducible apply Keeps.drewN) | (with_reducible apply Keeps.drew) | (with_reducible apply Keeps.alloc) | refine Keeps.setCell ?_ (by first | (simp; done) | (simp; omega)) _)) (fun _ _ _ h => h))
  go_enter Tryd.func115, Tryd.ntmps115
  go_wp2_with fail
  refine (VUint_any _ _ s _ HR2.out).mono ?_
  rintro e w1 ⟨v1, rfl, h1, hk1⟩
  have hH1 := hid h1
  obtain ⟨a1, n1, c1, rfl⟩ := rv_form h1
  clear h1
  have HF : Hd (sSize most s = if (sU s).1.1 = 0 then (if most < 0 ∨ most < ((sU s).2 : Nat) then ((2, (sU s).1.2), 0) else ((sU s).1, (sU s).2)) else ((sU s).1, 0)) := hid (by unfold sSize; rfl)
  generalize hu : (sU s).2 = u at *
  have HEU := hid hu; clear hu
  generalize ht : (sU s).1 = t at *
  clear ht
  have B0 := blk_keep (blk_alloc (blk_new w #[.slice a n c, .int .i64 s.1] 118) (.cells #[.slice none 0 0, .int .i64 0] 118)) hk1 (fun h => h)
  have B1 := blk_keep (blk_new' (w.alloc (.cells #[.slice a n c, .int .i64 s.1] 118)) #[.slice none 0 0, .int .i64 0 ] 118 (w.heap.size + 1) (by simp)) hk1 (fun h => h)
  have HB0 := hid B0; have HB1 := hid B1; clear B0 B1
  have f0 : w1.cell? ⟨w.heap.size, 0, none⟩ = some (.slice a n c) := blk_cell HB0.out 0
  have f1 : w1.cell? ⟨w.heap.size, 1, none⟩ = some (.int .i64 s.1) := blk_cell HB0.out 1
  have f2 : w1.frozen? ⟨w.heap.size, 0, none⟩ = false := blk_free HB0.out 0
  have f3 : w1.frozen? ⟨w.heap.size, 1, none⟩ = false := blk_free HB0.out 1
  have f4 : w1.cell? ⟨w.heap.size + 1, 0, none⟩ = some (.slice none 0 0) := blk_cell HB1.out 0
  have f5 : w1.cell? ⟨w.heap.size + 1, 1, none⟩ = some (.int .i64 0) := blk_cell HB1.out 1
  have f6 : w1.frozen? ⟨w.heap.size + 1, 0, none⟩ = false := blk_free HB1.out 0
  have f7 : w1.frozen? ⟨w.heap.size + 1, 1, none⟩ = false := blk_free HB1.out 1
  have hk2 : Keeps (fun _ => False) w w1 := (((Keeps.refl _ w).alloc _).alloc _).trans hk1
  have HK1 := hid hk2; clear hk1 hk2
  obtain ⟨e0, l0⟩ := t
  simp only at HF hH1 ⊢
  by_cases he : e0 = 0
  · subst he
    by_cases hm : most < 0 ∨ most < u
    · rw [if_pos rfl, if_pos hm] at HF
      have hm' : most < 0 ∨ (0 ≤ most ∧ most < u ∧ IntKind.u64.wrap most = most) := by
        rcases hm with h | h
        · exact .inl h
        · by_cases h0 : most < 0
          · exact .inl h0
          · exact .inr ⟨by omega, h, by rw [wrap_u64]; have := HMO.out; omega⟩
      clear hm
      rcases hm' with hm | ⟨hm, hm2, hm3⟩
      all_goals
        go_wp2_with fail
        refine (Vfail_any a1 n1 c1 0 2 _).mono ?_
        rintro e w2 ⟨rfl, hk3⟩
        have B0 := blk_keep (blk_set (blk_set HB0.out 0 (.slice a1 n1 c1)) 1 (.int .i64 0)) hk3 (fun h => h)
        have B1 := blk_keep (blk_other (blk_other HB1.out (c := w.heap.size) (by omega) 0 (.slice a1 n1 c1)) (c := w.heap.size) (by omega) 1 (.int .i64 0)) hk3 (fun h => h)
        have g0 : w2.cell? ⟨w.heap.size, 0, none⟩ = some (.slice a1 n1 c1) := blk_cell B0 0
        have g1 : w2.cell? ⟨w.heap.size, 1, none⟩ = some (.int .i64 0) := blk_cell B0 1
        have g2 : w2.frozen? ⟨w.heap.size, 0, none⟩ = false := blk_free B0 0
        have g3 : w2.frozen? ⟨w.heap.size, 1, none⟩ = false := blk_free B0 1
        have g4 : w2.cell? ⟨w.heap.size + 1, 0, none⟩ = some (.slice none 0 0) := blk_cell B1 0
        have g5 : w2.cell? ⟨w.heap.size + 1, 1, none⟩ = some (.int .i64 0) := blk_cell B1 1
        have g6 : w2.frozen? ⟨w.heap.size + 1, 0, none⟩ = false := blk_free B1 0
        have g7 : w2.frozen? ⟨w.heap.size + 1, 1, none⟩ = false := blk_free B1 1
        have hk4 : Keeps (fun k => w.heap.size ≤ k) w1 w2 := by
          refine Keeps.trans' ?_ hk3 (fun _ _ h => h.elim)
          repeat (first | (with_reducible assumption) | (with_reducible exact Keeps.refl _ _) | (with_reducible apply Keeps.drewN) | (with_reducible apply Keeps.drew) | (with_reducible apply Keeps.alloc) | refine Keeps.setCell ?_ (by first | (simp; done) | (simp; omega)) _)
        have HK4 := hid hk4; clear hk4 B0 B1 hk3 f0 f1 f2 f3 f4 f5 f6 f7
        go_wp2
        refine bodyPost_ret (v := .tuple #[.agg #[.slice a1 n1 c1, .int .i64 2], .int .i64 0]) (by simp [results, Tryd.results115, go_sem, g4, g5]) rfl ?_
        have hk5 := HK4.out
        refine ⟨_, by rw [HF.out]; rfl, ?_, HK1.out.after (by repeat (first | (with_reducible assumption) | (with_reducible exact Keeps.refl _ _) | (with_reducible apply Keeps.drewN) | (with_reducible apply Keeps.drew) | (with_reducible apply Keeps.alloc) | refine Keeps.setCell ?_ (by first | (simp; done) | (simp; omega)) _))⟩
        rw [HF.out]
        exact rv_err ((hH1.out.keep (S := fun k => w.heap.size ≤ k) (by repeat (first | (with_reducible assumption) | (with_reducible exact Keeps.refl _ _) | (with_reducible apply Keeps.drewN) | (with_reducible apply Keeps.drew) | (with_reducible apply Keeps.alloc) | refine Keeps.setCell ?_ (by first | (simp; done) | (simp; omega)) _)) (fun b _ h => by omega)).mono (fun _ _ h => h.1)) 2 (by simp)
    · rw [if_pos rfl, if_neg hm] at HF
      have hm3 : 0 ≤ most := by omega
      have hm4 : (u : Int) ≤ most := by omega
      have t2 : IntKind.u64.wrap most = most := by rw [wrap_u64]; have := HMO.out; omega
      have t3 : Hd (wrap64 (u : Int) = u) := hid (by unfold wrap64; have := HMO.out; omega)
      clear hm
      go_wp2
      refine bodyPost_ret (v := .tuple #[.agg #[.slice a1 n1 c1, .int .i64 0], .int .i64 (wrap64 ↑u)]) (by simp [results, Tryd.results115, go_sem, f4, f5]) rfl ?_
      refine ⟨_, by rw [HF.out]; rw [t3.out], ?_, HK1.out.after (by repeat (first | (with_reducible assumption) | (with_reducible exact Keeps.refl _ _) | (with_reducible apply Keeps.drewN) | (with_reducible apply Keeps.drew) | (with_reducible apply Keeps.alloc) | refine Keeps.setCell ?_ (by first | (simp; done) | (simp; omega)) _))⟩
      rw [HF.out]
      exact (hH1.out.keep (S := fun k => w.heap.size ≤ k) (by repeat (first | (with_reducible assumption) | (with_reducible exact Keeps.refl _ _) | (with_reducible apply Keeps.drewN) | (with_reducible apply Keeps.drew) | (with_reducible apply Keeps.alloc) | refine Keeps.setCell ?_ (by first | (simp; done) | (simp; omega)) _)) (fun b _ h => by omega)).mono (fun _ _ h => h.1)
  · rw [if_neg he] at HF
    have HE := hid he
    have t1 : (e0 == 0) = false := by simp; exact he
    have t2 : (e0 != 0) = true := by simp; exact he
    clear he
    go_wp2
    refine bodyPost_ret (v := .tuple #[.agg #[.slice a1 n1 c1, .int .i64 e0], .int .i64 0]) (by simp [results, Tryd.results115, go_sem, f4, f5]) rfl ?_
    refine ⟨_, by rw [HF.out]; rfl, ?_, HK1.out.after (by repeat (first | (with_reducible assumption) | (with_reducible exact Keeps.refl _ _) | (with_reducible apply Keeps.drewN) | (with_reducible apply Keeps.drew) | (with_reducible apply Keeps.alloc) | refine Keeps.setCell ?_ (by first | (simp; done) | (simp; omega)) _))⟩
    rw [HF.out]
    exact (hH1.out.keep (S := fun k => w.heap.size ≤ k) (by repeat (first | (with_reducible assumption) | (with_reducible exact Keeps.refl _ _) | (with_reducible apply Keeps.drewN) | (with_reducible apply Keeps.drew) | (with_reducible apply Keeps.alloc) | refine Keeps.setCell ?_ (by first | (simp; done) | (simp; omega)) _)) (fun b _ h => by omega)).mono (fun _ _ h => h.1)
end Go.Proofs.YthoikljmokkchaaDoor.Wi
