/- link.put. -/
import Derived.Test.YtjapmpolagblaaaLinkF
import Derived.Test.YtjapmpolagblaaaStepRow
namespace Go.Proofs.Ytjapmpolagblaaa
open Go.RowKit
attribute [local go_sem ↓] Go.wp_at_zero Go.wp_at_succ
theorem lit_src (w : World) (cs : List Value) (T : TypeId) : ∀ (j : Nat) (u : Value), cs[j]? = some u → (w.alloc (.cells cs.toArray T)).cell? ((⟨w.heap.size, 0, none⟩ : Addr).add j) = some u := by
  intro j u hu
  have h := blk_cell (blk_new w cs.toArray T) j
  unfold Addr.add
  split
  · rename_i h0; subst h0; rw [h]; simpa using hu
  · simp only [Nat.zero_add]; rw [h]; simpa using hu
/-- whether a flight stays ahead of another one -/
def fBefore (x y : Flt) : Bool := decide (y.t < x.t) || (y.t == x.t && decide (y.n ≤ x.n))
def putK (l : List Flt) (x : Flt) : Nat := (l.takeWhile (fBefore x)).length
def putL (l : List Flt) (x : Flt) : List Flt := l.take (putK l x) ++ x :: l.drop (putK l x)
theorem putK_at {l : List Flt} {x : Flt} : ∀ {k : Nat}, k ≤ l.length → (∀ i y, i < k → l[i]? = some y → fBefore x y = true) → (∀ y, l[k]? = some y → fBefore x y = false) → putK l x = k := by
  induction l with
  | nil => intro k hk _ _; simp at hk; subst hk; rfl
  | cons z l ih =>
    intro k hk h1 h2
    unfold putK at *
    cases k with
    | zero => have := h2 z rfl; simp [List.takeWhile, this]
    | succ k =>
      have h0 := h1 0 z (by omega) rfl
      have := ih (k := k) (by simpa using hk) (fun i y hi hy => h1 (i + 1) y (by omega) (by simpa using hy)) (fun y hy => h2 y (by simpa using hy))
      simp [List.takeWhile, h0, this]
theorem putK_le (l : List Flt) (x : Flt) : putK l x ≤ l.length := by
  unfold putK; exact List.Sublist.length_le (List.takeWhile_sublist _)
theorem putL_length (l : List Flt) (x : Flt) : (putL l x).length = l.length + 1 := by
  have := putK_le l x
  unfold putL; rw [List.length_append, List.length_cons, List.length_take, List.length_drop]; omega
def fltCells (x : Flt) (ad : Option Addr) (cd : Nat) : List Value := [.int .i64 x.t, .int .i64 x.n, .int .i64 x.f, .int .i64 x.g, .slice ad x.d.length cd]
def PutPost (w : World) (xs cx : List Value) (n k : Nat) (r : Ending) (w' : World) : Prop := ∃ a c, r = .returned (.slice a (n + 1) c) ∧ Own (fun b => w.heap.size ≤ b) w' 59 5 (.slice a (n + 1) c) (n + 1) (xs.take (k * 5) ++ cx ++ xs.drop (k * 5)) ∧ Keeps (fun _ => False) w w'
set_option maxRecDepth 100000 in set_option maxHeartbeats 1000000 in
theorem put_any (v : Value) (l : List Flt) (xs : List Value) (x : Flt) (ad : Option Addr) (cd : Nat) (w : World) (hrow : Row (fun b => b < w.heap.size) w 5 v l.length xs) (hone : ∀ u ∈ xs, u.oneCell' = true)
    (hcells : ∀ i y, l[i]? = some y → xs.getD (i * 5) undef = .int .i64 y.t ∧ xs.getD (i * 5 + 1) undef = .int .i64 y.n) (hm : l.length ≤ 1000000) :
    Calls Try.prog 23 #[v, .agg #[.int .i64 x.t, .int .i64 x.n, .int .i64 x.f, .int .i64 x.g, .slice ad x.d.length cd]] w fun e w' => PutPost w xs (fltCells x ad cd) l.length (putK l x) e w' := by
  obtain ⟨i0, z, hi, hz0, hz1, hz2, hz3⟩ := fl_parts
  have HCE := hid hcells; have HONE := hid hone; have HROW := hid hrow
  obtain ⟨a, cap, rfl, hcap, hcm, hel⟩ := hrow.form
  have HEL := hid hel
  unfold maxLen at hcm
  clear hcells hone hrow hel
  generalize hll : l.length = m at *
  have HLL := hid hll; clear hll
  go_enter Try.func23, Try.ntmps23
  go_upto_region 1 with fail
  generalize hW : World.alloc w _ = W
  have BX : Hd (Blk W w.heap.size #[.int .i64 x.t, .int .i64 x.n, .int .i64 x.f, .int .i64 x.g, .slice ad x.d.length cd] 59) := hid (by rw [← hW]; exact blk_new _ _ _)
  have KW : Hd (Keeps (fun _ => False) w W) := hid (by rw [← hW]; exact keeps_alloc _ _ _)
  clear hW
  go_wp2_with fail
  go_loopw [5] (fun i wr => ∃ k : Nat, i = .int .i64 k ∧ k ≤ m ∧ Hd (∀ i y, i < k → l[i]? = some y → fBefore x y = true) ∧ Hd (Drawn W wr)) (fun i _ => m - (intOf i).toNat)
  case atStart => exact ⟨0, rfl, Nat.zero_le _, hid (fun i y hi => by omega), hid (Drawn.refl _)⟩
  case round =>
    obtain ⟨k, rfl, hk, HBE, HD⟩ := hrel
    have zR : w.heap.size < W.heap.size := blk_lt BX.out
    by_cases hkm : k < m
    · obtain ⟨b, off, rfl, hb1, hb2, hcell⟩ := HEL.out (by omega)
      clear HEL
      obtain ⟨y, hy⟩ : ∃ y, l[k]? = some y := ⟨l[k]'(by rw [HLL.out]; exact hkm), List.getElem?_eq_getElem _⟩
      obtain ⟨t0, t1⟩ := HCE.out k y hy
      have HXK := hid hy
      have o0 : wr.cell? ⟨w.heap.size, 0, none⟩ = some (.int .i64 x.t) := HD.out.cell (blk_cell BX.out 0)
      have o1 : wr.cell? ⟨w.heap.size, 1, none⟩ = some (.int .i64 x.n) := HD.out.cell (blk_cell BX.out 1)
      have f0 : wr.cell? ⟨b, off + k * 5, none⟩ = some (.int .i64 y.t) := HD.out.cell (keep_cell KW.out (fun h => h) ((hcell (k * 5) (by omega)).trans (congrArg some t0)))
      have f1 : wr.cell? ⟨b, off + k * 5 + 1, none⟩ = some (.int .i64 y.n) := HD.out.cell (keep_cell KW.out (fun h => h) ((hcell (k * 5 + 1) (by omega)).trans (congrArg some t1)))
      have k1 : (k : Int) < m := by omega
      have k2 : (0 : Int) ≤ k := by omega
      clear t0 t1 hy
      by_cases e1 : y.t < x.t
      · have d1 : decide (y.t < x.t) = true := by simp; exact e1
        have HF : Hd (fBefore x y = true) := hid (by simp [fBefore, e1])
        clear e1
        go_upto_region 2 with fail
        go_quiet (fail)
        go_wp2
        go_roundw
        case rel =>
          refine ⟨k + 1, by go_num, by omega, hid (fun i y' hi hy' => ?_), hid (by first | exact HD.out | exact drawn_n HD.out _ | exact drawn_1 HD.out)⟩
          rcases Nat.lt_or_ge i k with h | h
          · exact HBE.out i y' h hy'
          · obtain rfl : i = k := by omega
            rw [HXK.out] at hy'; injection hy' with hy'; subst hy'
            exact HF.out
        case measure => simp [intOf]; omega
      · have d1 : decide (y.t < x.t) = false := by simp; omega
        by_cases e2 : y.t = x.t
        · have d2 : (y.t == x.t) = true := by simp; exact e2
          by_cases e3 : y.n ≤ x.n
          · have d3 : decide (y.n ≤ x.n) = true := by simp; exact e3
            have HF : Hd (fBefore x y = true) := hid (by simp [fBefore, e2, e3])
            clear e1 e2 e3
            go_upto_region 2 with fail
            go_quiet (fail)
            go_wp2
            go_roundw
            case rel =>
              refine ⟨k + 1, by go_num, by omega, hid (fun i y' hi hy' => ?_), hid (by first | exact HD.out | exact drawn_n HD.out _ | exact drawn_1 HD.out)⟩
              rcases Nat.lt_or_ge i k with h | h
              · exact HBE.out i y' h hy'
              · obtain rfl : i = k := by omega
                rw [HXK.out] at hy'; injection hy' with hy'; subst hy'
                exact HF.out
            case measure => simp [intOf]; omega
          · have d3 : decide (y.n ≤ x.n) = false := by simp; omega
            have HF : Hd (fBefore x y = false) := hid (by simp [fBefore, e2, e3])
            clear e1 e2 e3
            have HPK : Hd (putK l x = k) := hid (putK_at (by rw [HLL.out]; omega) HBE.out (fun y' hy' => by rw [HXK.out] at hy'; injection hy' with hy'; subst hy'; exact HF.out))
            clear HBE
            go_upto_region 2 with fail
            go_quiet (fail)
            go_upto_region 4 with fail
            clear hcell o0 o1 f0 f1
            have HR1 := hid (HROW.out.keep (KW.out.trans (drawn_keeps _ HD.out)) (fun _ _ _ h => h))
            obtain ⟨a1, hcut1, hr1⟩ := run_cut_full (P := Try.prog) (t := 26) Try.underlying26 hi hz1 HR1.out k hk
            obtain ⟨a2, c2, hcut2, hr2⟩ := run_cut_from (P := Try.prog) (t := 26) Try.underlying26 hi hz1 HR1.out (lo := (k : Int)) k rfl hk
            have Q1 := hid hr1; have Q2 := hid hr2
            have ONE1 : Hd (∀ u ∈ (xs.drop (k * 5)).take ((m - k) * 5), u.oneCell' = true) := hid (fun u hu => HONE.out u (List.mem_of_mem_drop (List.mem_of_mem_take hu)))
            have L5 : Hd (Keeps (fun _ => False) wr wr) := hid (Keeps.refl _ _)
            have BXR := hid (blk_keep BX.out (drawn_keeps (fun _ => False) HD.out) (fun h => h))
            have HSS : Hd (∀ w', Keeps (fun _ => False) wr w' → (w'.cell? ⟨w.heap.size, 0, none⟩ = some (.int .i64 x.t) ∧ w'.cell? ⟨w.heap.size, 1, none⟩ = some (.int .i64 x.n) ∧ w'.cell? ⟨w.heap.size, 2, none⟩ = some (.int .i64 x.f) ∧ w'.cell? ⟨w.heap.size, 3, none⟩ = some (.int .i64 x.g) ∧ w'.cell? ⟨w.heap.size, 4, none⟩ = some (.slice ad x.d.length cd))) := hid (fun w' hk => by
              have := blk_keep BXR.out hk (fun h => h)
              exact ⟨blk_cell this 0, blk_cell this 1, blk_cell this 2, blk_cell this 3, blk_cell this 4⟩)
            have KWR : Hd (Keeps (fun _ => False) w wr) := hid (KW.out.trans (drawn_keeps _ HD.out))
            clear hr1 hr2 HR1 BXR HD
            go_region_held_law (fun w' => w'.cell? ⟨w.heap.size, 0, none⟩ = some (.int .i64 x.t) ∧ w'.cell? ⟨w.heap.size, 1, none⟩ = some (.int .i64 x.n) ∧ w'.cell? ⟨w.heap.size, 2, none⟩ = some (.int .i64 x.f) ∧ w'.cell? ⟨w.heap.size, 3, none⟩ = some (.int .i64 x.g) ∧ w'.cell? ⟨w.heap.size, 4, none⟩ = some (.slice ad x.d.length cd)) ((refine HSS.out _ ?_; repeat (first | (with_reducible exact K7.out) | (with_reducible exact K6.out) | (with_reducible exact (L5.out.mono (fun _ _ h => h.elim))) | (with_reducible exact Keeps.refl _ _) | (with_reducible apply Keeps.drewN) | (with_reducible apply Keeps.drew) | (with_reducible apply Keeps.alloc))))
              (first
              | (refine step_append_full rfl (.tmp 45) (.tmp 47) 26 rfl 59 i0 z 5 56 Try.underlying26 hi hz0 hz1 hz2 hz3 (by decide) (fun b => b < w.heap.size) a1 k _ (by simp [Act.eval, Act.put]) (Q1.out.keep (S := fun _ => False) (by repeat (first | (with_reducible exact L5.out) | (with_reducible exact Keeps.refl _ _) | (with_reducible apply Keeps.drewN) | (with_reducible apply Keeps.drew) | (with_reducible apply Keeps.alloc))) (fun _ _ _ h => h)) ⟨wr.heap.size, 0, none⟩ 1 1 (fltCells x ad cd) (by simp [Act.eval, Act.put]) rfl (by exact lit_src _ _ _) (by intro u hu; simp [fltCells] at hu; rcases hu with rfl | rfl | rfl | rfl | rfl <;> rfl) (by omega) (by simp [maxLen]; omega) (by omega) ?_; intro a6 c6 w6 hown6 hk6; have HO6 := hid (hown6.mono (K' := fun b => wr.heap.size ≤ b) (fun b _ h => Nat.le_trans (Keeps.size (S := fun _ => False) (w := wr) (by repeat (first | (with_reducible exact L5.out) | (with_reducible exact Keeps.refl _ _) | (with_reducible apply Keeps.drewN) | (with_reducible apply Keeps.drew) | (with_reducible apply Keeps.alloc)))) h)); have K6 : Hd (Keeps (fun _ => False) wr w6) := hid (Keeps.trans (S := fun _ => False) (by repeat (first | (with_reducible exact L5.out) | (with_reducible exact Keeps.refl _ _) | (with_reducible apply Keeps.drewN) | (with_reducible apply Keeps.drew) | (with_reducible apply Keeps.alloc))) hk6); clear hown6 hk6)
              | (refine step_append_own_row rfl (.tmp 48) (.tmp 51) 26 rfl 59 i0 z 5 56 Try.underlying26 hi hz0 hz1 hz2 hz3 (by decide) _ (fun b => b < w.heap.size) (.slice a6 (k + 1) c6) (.slice a2 (m - k) c2) (k + 1) _ (by simp [Act.eval, Act.put]) HO6.out (m - k) _ (by simp [Act.eval, Act.put]) (Q2.out.keep K6.out (fun _ _ _ h => h)) ONE1.out (by simp [maxLen]; omega) (by omega) ?_; intro a7 c7 w7 hown7 hk7; have HO7 := hid hown7; have K7 : Hd (Keeps (fun _ => False) wr w7) := hid (K6.out.trans' hk7 (fun i hi h => by omega)); clear hown7 hk7))
            simp only [List.getElem_toArray, List.getElem_cons_succ, List.getElem_cons_zero, List.setIfInBounds_toArray, List.set_cons_zero, List.set_cons_succ]
            have HR : Hd (PutPost w xs (fltCells x ad cd) m (putK l x) (.returned (.slice a7 (k + 1 + (m - k)) c7)) w7) := hid (by
              have e1 : k + 1 + (m - k) = m + 1 := by omega
              have e2 : (xs.drop (k * 5)).take ((m - k) * 5) = xs.drop (k * 5) := List.take_of_length_le (by rw [List.length_drop, HROW.out.1]; omega)
              have e3 := HO7.out
              rw [e1, e2] at e3
              have zR := KWR.out.size
              have z6 := K6.out.size
              rw [HPK.out, e1]
              exact ⟨a7, c7, rfl, e3.mono (fun b _ h => by rcases h with h | h <;> omega), KWR.out.trans K7.out⟩)
            clear HO7 HO6
            go_wp2
            go_ret
            exact HR.out
        · have d2 : (y.t == x.t) = false := by simp; exact e2
          have HF : Hd (fBefore x y = false) := hid (by simp [fBefore, e1, e2])
          clear e1 e2
          have HPK : Hd (putK l x = k) := hid (putK_at (by rw [HLL.out]; omega) HBE.out (fun y' hy' => by rw [HXK.out] at hy'; injection hy' with hy'; subst hy'; exact HF.out))
          clear HBE
          go_upto_region 2 with fail
          go_quiet (fail)
          go_upto_region 4 with fail
          clear hcell o0 o1 f0 f1
          have HR1 := hid (HROW.out.keep (KW.out.trans (drawn_keeps _ HD.out)) (fun _ _ _ h => h))
          obtain ⟨a1, hcut1, hr1⟩ := run_cut_full (P := Try.prog) (t := 26) Try.underlying26 hi hz1 HR1.out k hk
          obtain ⟨a2, c2, hcut2, hr2⟩ := run_cut_from (P := Try.prog) (t := 26) Try.underlying26 hi hz1 HR1.out (lo := (k : Int)) k rfl hk
          have Q1 := hid hr1; have Q2 := hid hr2
          have ONE1 : Hd (∀ u ∈ (xs.drop (k * 5)).take ((m - k) * 5), u.oneCell' = true) := hid (fun u hu => HONE.out u (List.mem_of_mem_drop (List.mem_of_mem_take hu)))
          have L5 : Hd (Keeps (fun _ => False) wr wr) := hid (Keeps.refl _ _)
          have BXR := hid (blk_keep BX.out (drawn_keeps (fun _ => False) HD.out) (fun h => h))
          have HSS : Hd (∀ w', Keeps (fun _ => False) wr w' → (w'.cell? ⟨w.heap.size, 0, none⟩ = some (.int .i64 x.t) ∧ w'.cell? ⟨w.heap.size, 1, none⟩ = some (.int .i64 x.n) ∧ w'.cell? ⟨w.heap.size, 2, none⟩ = some (.int .i64 x.f) ∧ w'.cell? ⟨w.heap.size, 3, none⟩ = some (.int .i64 x.g) ∧ w'.cell? ⟨w.heap.size, 4, none⟩ = some (.slice ad x.d.length cd))) := hid (fun w' hk => by
            have := blk_keep BXR.out hk (fun h => h)
            exact ⟨blk_cell this 0, blk_cell this 1, blk_cell this 2, blk_cell this 3, blk_cell this 4⟩)
          have KWR : Hd (Keeps (fun _ => False) w wr) := hid (KW.out.trans (drawn_keeps _ HD.out))
          clear hr1 hr2 HR1 BXR HD
          go_region_held_law (fun w' => w'.cell? ⟨w.heap.size, 0, none⟩ = some (.int .i64 x.t) ∧ w'.cell? ⟨w.heap.size, 1, none⟩ = some (.int .i64 x.n) ∧ w'.cell? ⟨w.heap.size, 2, none⟩ = some (.int .i64 x.f) ∧ w'.cell? ⟨w.heap.size, 3, none⟩ = some (.int .i64 x.g) ∧ w'.cell? ⟨w.heap.size, 4, none⟩ = some (.slice ad x.d.length cd)) ((refine HSS.out _ ?_; repeat (first | (with_reducible exact K7.out) | (with_reducible exact K6.out) | (with_reducible exact (L5.out.mono (fun _ _ h => h.elim))) | (with_reducible exact Keeps.refl _ _) | (with_reducible apply Keeps.drewN) | (with_reducible apply Keeps.drew) | (with_reducible apply Keeps.alloc))))
            (first
            | (refine step_append_full rfl (.tmp 45) (.tmp 47) 26 rfl 59 i0 z 5 56 Try.underlying26 hi hz0 hz1 hz2 hz3 (by decide) (fun b => b < w.heap.size) a1 k _ (by simp [Act.eval, Act.put]) (Q1.out.keep (S := fun _ => False) (by repeat (first | (with_reducible exact L5.out) | (with_reducible exact Keeps.refl _ _) | (with_reducible apply Keeps.drewN) | (with_reducible apply Keeps.drew) | (with_reducible apply Keeps.alloc))) (fun _ _ _ h => h)) ⟨wr.heap.size, 0, none⟩ 1 1 (fltCells x ad cd) (by simp [Act.eval, Act.put]) rfl (by exact lit_src _ _ _) (by intro u hu; simp [fltCells] at hu; rcases hu with rfl | rfl | rfl | rfl | rfl <;> rfl) (by omega) (by simp [maxLen]; omega) (by omega) ?_; intro a6 c6 w6 hown6 hk6; have HO6 := hid (hown6.mono (K' := fun b => wr.heap.size ≤ b) (fun b _ h => Nat.le_trans (Keeps.size (S := fun _ => False) (w := wr) (by repeat (first | (with_reducible exact L5.out) | (with_reducible exact Keeps.refl _ _) | (with_reducible apply Keeps.drewN) | (with_reducible apply Keeps.drew) | (with_reducible apply Keeps.alloc)))) h)); have K6 : Hd (Keeps (fun _ => False) wr w6) := hid (Keeps.trans (S := fun _ => False) (by repeat (first | (with_reducible exact L5.out) | (with_reducible exact Keeps.refl _ _) | (with_reducible apply Keeps.drewN) | (with_reducible apply Keeps.drew) | (with_reducible apply Keeps.alloc))) hk6); clear hown6 hk6)
            | (refine step_append_own_row rfl (.tmp 48) (.tmp 51) 26 rfl 59 i0 z 5 56 Try.underlying26 hi hz0 hz1 hz2 hz3 (by decide) _ (fun b => b < w.heap.size) (.slice a6 (k + 1) c6) (.slice a2 (m - k) c2) (k + 1) _ (by simp [Act.eval, Act.put]) HO6.out (m - k) _ (by simp [Act.eval, Act.put]) (Q2.out.keep K6.out (fun _ _ _ h => h)) ONE1.out (by simp [maxLen]; omega) (by omega) ?_; intro a7 c7 w7 hown7 hk7; have HO7 := hid hown7; have K7 : Hd (Keeps (fun _ => False) wr w7) := hid (K6.out.trans' hk7 (fun i hi h => by omega)); clear hown7 hk7))
          simp only [List.getElem_toArray, List.getElem_cons_succ, List.getElem_cons_zero, List.setIfInBounds_toArray, List.set_cons_zero, List.set_cons_succ]
          have HR : Hd (PutPost w xs (fltCells x ad cd) m (putK l x) (.returned (.slice a7 (k + 1 + (m - k)) c7)) w7) := hid (by
            have e1 : k + 1 + (m - k) = m + 1 := by omega
            have e2 : (xs.drop (k * 5)).take ((m - k) * 5) = xs.drop (k * 5) := List.take_of_length_le (by rw [List.length_drop, HROW.out.1]; omega)
            have e3 := HO7.out
            rw [e1, e2] at e3
            have zR := KWR.out.size
            have z6 := K6.out.size
            rw [HPK.out, e1]
            exact ⟨a7, c7, rfl, e3.mono (fun b _ h => by rcases h with h | h <;> omega), KWR.out.trans K7.out⟩)
          clear HO7 HO6
          go_wp2
          go_ret
          exact HR.out
    · have hkm2 : k = m := by omega
      have HPK : Hd (putK l x = k) := hid (putK_at (by rw [HLL.out]; omega) HBE.out (fun y hy => by rw [List.getElem?_eq_none (by rw [HLL.out]; omega)] at hy; cases hy))
      have k0 : ¬ ((k : Int) < m) := by omega
      clear hkm hkm2 HBE HEL
      go_upto_region 2 with fail
      go_quiet (fail)
      go_upto_region 4 with fail
      have HR1 := hid (HROW.out.keep (KW.out.trans (drawn_keeps _ HD.out)) (fun _ _ _ h => h))
      obtain ⟨a1, hcut1, hr1⟩ := run_cut_full (P := Try.prog) (t := 26) Try.underlying26 hi hz1 HR1.out k hk
      obtain ⟨a2, c2, hcut2, hr2⟩ := run_cut_from (P := Try.prog) (t := 26) Try.underlying26 hi hz1 HR1.out (lo := (k : Int)) k rfl hk
      have Q1 := hid hr1; have Q2 := hid hr2
      have ONE1 : Hd (∀ u ∈ (xs.drop (k * 5)).take ((m - k) * 5), u.oneCell' = true) := hid (fun u hu => HONE.out u (List.mem_of_mem_drop (List.mem_of_mem_take hu)))
      have L5 : Hd (Keeps (fun _ => False) wr wr) := hid (Keeps.refl _ _)
      have BXR := hid (blk_keep BX.out (drawn_keeps (fun _ => False) HD.out) (fun h => h))
      have HSS : Hd (∀ w', Keeps (fun _ => False) wr w' → (w'.cell? ⟨w.heap.size, 0, none⟩ = some (.int .i64 x.t) ∧ w'.cell? ⟨w.heap.size, 1, none⟩ = some (.int .i64 x.n) ∧ w'.cell? ⟨w.heap.size, 2, none⟩ = some (.int .i64 x.f) ∧ w'.cell? ⟨w.heap.size, 3, none⟩ = some (.int .i64 x.g) ∧ w'.cell? ⟨w.heap.size, 4, none⟩ = some (.slice ad x.d.length cd))) := hid (fun w' hk => by
        have := blk_keep BXR.out hk (fun h => h)
        exact ⟨blk_cell this 0, blk_cell this 1, blk_cell this 2, blk_cell this 3, blk_cell this 4⟩)
      have KWR : Hd (Keeps (fun _ => False) w wr) := hid (KW.out.trans (drawn_keeps _ HD.out))
      clear hr1 hr2 HR1 BXR HD
      go_region_held_law (fun w' => w'.cell? ⟨w.heap.size, 0, none⟩ = some (.int .i64 x.t) ∧ w'.cell? ⟨w.heap.size, 1, none⟩ = some (.int .i64 x.n) ∧ w'.cell? ⟨w.heap.size, 2, none⟩ = some (.int .i64 x.f) ∧ w'.cell? ⟨w.heap.size, 3, none⟩ = some (.int .i64 x.g) ∧ w'.cell? ⟨w.heap.size, 4, none⟩ = some (.slice ad x.d.length cd)) ((refine HSS.out _ ?_; repeat (first | (with_reducible exact K7.out) | (with_reducible exact K6.out) | (with_reducible exact (L5.out.mono (fun _ _ h => h.elim))) | (with_reducible exact Keeps.refl _ _) | (with_reducible apply Keeps.drewN) | (with_reducible apply Keeps.drew) | (with_reducible apply Keeps.alloc))))
        (first
        | (refine step_append_full rfl (.tmp 45) (.tmp 47) 26 rfl 59 i0 z 5 56 Try.underlying26 hi hz0 hz1 hz2 hz3 (by decide) (fun b => b < w.heap.size) a1 k _ (by simp [Act.eval, Act.put]) (Q1.out.keep (S := fun _ => False) (by repeat (first | (with_reducible exact L5.out) | (with_reducible exact Keeps.refl _ _) | (with_reducible apply Keeps.drewN) | (with_reducible apply Keeps.drew) | (with_reducible apply Keeps.alloc))) (fun _ _ _ h => h)) ⟨wr.heap.size, 0, none⟩ 1 1 (fltCells x ad cd) (by simp [Act.eval, Act.put]) rfl (by exact lit_src _ _ _) (by intro u hu; simp [fltCells] at hu; rcases hu with rfl | rfl | rfl | rfl | rfl <;> rfl) (by omega) (by simp [maxLen]; omega) (by omega) ?_; intro a6 c6 w6 hown6 hk6; have HO6 := hid (hown6.mono (K' := fun b => wr.heap.size ≤ b) (fun b _ h => Nat.le_trans (Keeps.size (S := fun _ => False) (w := wr) (by repeat (first | (with_reducible exact L5.out) | (with_reducible exact Keeps.refl _ _) | (with_reducible apply Keeps.drewN) | (with_reducible apply Keeps.drew) | (with_reducible apply Keeps.alloc)))) h)); have K6 : Hd (Keeps (fun _ => False) wr w6) := hid (Keeps.trans (S := fun _ => False) (by repeat (first | (with_reducible exact L5.out) | (with_reducible exact Keeps.refl _ _) | (with_reducible apply Keeps.drewN) | (with_reducible apply Keeps.drew) | (with_reducible apply Keeps.alloc))) hk6); clear hown6 hk6)
        | (refine step_append_own_row rfl (.tmp 48) (.tmp 51) 26 rfl 59 i0 z 5 56 Try.underlying26 hi hz0 hz1 hz2 hz3 (by decide) _ (fun b => b < w.heap.size) (.slice a6 (k + 1) c6) (.slice a2 (m - k) c2) (k + 1) _ (by simp [Act.eval, Act.put]) HO6.out (m - k) _ (by simp [Act.eval, Act.put]) (Q2.out.keep K6.out (fun _ _ _ h => h)) ONE1.out (by simp [maxLen]; omega) (by omega) ?_; intro a7 c7 w7 hown7 hk7; have HO7 := hid hown7; have K7 : Hd (Keeps (fun _ => False) wr w7) := hid (K6.out.trans' hk7 (fun i hi h => by omega)); clear hown7 hk7))
      simp only [List.getElem_toArray, List.getElem_cons_succ, List.getElem_cons_zero, List.setIfInBounds_toArray, List.set_cons_zero, List.set_cons_succ]
      have HR : Hd (PutPost w xs (fltCells x ad cd) m (putK l x) (.returned (.slice a7 (k + 1 + (m - k)) c7)) w7) := hid (by
        have e1 : k + 1 + (m - k) = m + 1 := by omega
        have e2 : (xs.drop (k * 5)).take ((m - k) * 5) = xs.drop (k * 5) := List.take_of_length_le (by rw [List.length_drop, HROW.out.1]; omega)
        have e3 := HO7.out
        rw [e1, e2] at e3
        have zR := KWR.out.size
        have z6 := K6.out.size
        rw [HPK.out, e1]
        exact ⟨a7, c7, rfl, e3.mono (fun b _ h => by rcases h with h | h <;> omega), KWR.out.trans K7.out⟩)
      clear HO7 HO6
      go_wp2
      go_ret
      exact HR.out
end Go.Proofs.Ytjapmpolagblaaa
