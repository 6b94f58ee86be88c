/- Frame: keep. -/
import Derived.Test.YthoikljmokkchaaDoorFrN
namespace Go.Proofs.YthoikljmokkchaaDoor
open Go.RowKit
theorem lit_srcF (w : World) (cs : List Value) (T : TypeId) : ∀ (j : Nat) (u : Value), cs[j]? = some u → (w.alloc (.cells cs.toArray T)).cell? ((⟨w.heap.size, 0, none⟩ : Addr).add j) = some u := by
  intro j u hu
  have h := blk_cell (blk_new w cs.toArray T) j
  unfold Addr.add
  split
  · rename_i h0; subst h0; rw [h]; simpa using hu
  · simp only [Nat.zero_add]; rw [h]; simpa using hu
def frCells (f : Fr) (ad : Option Addr) (cd : Nat) : List Value := [.int .i64 f.q, .int .i64 f.k, .bool f.u, .slice ad f.b.length cd, .int .u64 (f.t : Int)]
def KeepP (w : World) (K : Nat → Prop) (l : List Fr) (xs : List Value) (f : Fr) (ad : Option Addr) (cd : Nat) (e : Ending) (w' : World) : Prop :=
  (∃ (k : Nat) (a : Option Addr) (c : Nat), k ≤ l.length ∧ (∀ (i : Nat) (y : Fr), i < k → l[i]? = some y → y.q < f.q) ∧ (∀ (y : Fr), l[k]? = some y → f.q < y.q) ∧ e = .returned (.slice a (l.length + 1) c) ∧ Own (fun b => w.heap.size ≤ b) w' 25 5 (.slice a (l.length + 1) c) (l.length + 1) (xs.take (k * 5) ++ frCells f ad cd ++ xs.drop (k * 5)) ∧ Keeps (fun _ => False) w w') ∨
  (∃ (k : Nat) (x : Fr) (a : Option Addr) (c : Nat), l[k]? = some x ∧ x.q = f.q ∧ (∀ (i : Nat) (y : Fr), i < k → l[i]? = some y → y.q < f.q) ∧ e = .returned (.slice a l.length c) ∧ Frs (fun b => K b ∨ w.heap.size ≤ b) w' (.slice a l.length c) l ∧ Keeps (fun _ => False) w w')
set_option maxRecDepth 100000 in
set_option maxHeartbeats 4000000 in
theorem keep_raw (l : List Fr) (xs : List Value) (a : Option Addr) (c : Nat) (f : Fr) (ad : Option Addr) (cd : Nat) (w : World) (K : Nat → Prop) (hK : ∀ b, K b → b < w.heap.size) (hrow : Row K w 5 (.slice a l.length c) l.length xs) (hfl : FrL K w xs l) (hm : l.length ≤ 1000) :
    Calls Tryd.prog 70 #[.slice a l.length c, .agg #[.int .i64 f.q, .int .i64 f.k, .bool f.u, .slice ad f.b.length cd, .int .u64 (f.t : Int)]] w fun e w' => KeepP w K l xs f ad cd e w' := by
  obtain ⟨i0, zz, hi, hz0, hz1, hz2, hz3⟩ := fr_parts
  have HKW := hid hK
  clear hK
  have HROW := hid (hrow.mono (K' := fun b => b < w.heap.size) (fun b h _ => h))
  have HLK : Hd (Frs K w (.slice a l.length c) l) := hid ⟨xs, hrow, hfl⟩
  have HL : Hd (Frs (fun b => b < w.heap.size) w (.slice a l.length c) l) := hid (HLK.out.mono (fun b h _ => h))
  have HONE : Hd (∀ u ∈ xs, u.oneCell' = true) := hid hfl.ones
  clear hrow hfl
  obtain ⟨m, hll⟩ : ∃ m, l.length = m := ⟨_, rfl⟩
  have HLL := hid hll
  unfold KeepP
  rw [hll] at HROW HL HLK hm ⊢
  clear hll
  have hcm : m ≤ c := by
    obtain ⟨_, _, e, g1, _⟩ := HROW.out.form
    injection e with _ _ e
    omega
  go_enter Tryd.func70, Tryd.ntmps70
  go_upto_region 1 with fail
  generalize hW : World.alloc w _ = W
  have BX : Hd (Blk W w.heap.size #[.int .i64 f.q, .int .i64 f.k, .bool f.u, .slice ad f.b.length cd, .int .u64 (f.t : Int)] 25) := hid (by rw [← hW]; exact blk_new _ _ _)
  have KW : Hd (Keeps (fun _ => False) w W) := hid (by rw [← hW]; exact keeps_alloc _ _ _)
  clear hW
  go_wp2_with fail
  have hcall := IndexF_any _ a c l w.heap.size f.q W (by rw [HLL.out]; exact HL.out.keep KW.out (fun _ _ _ h => h)) (blk_cell BX.out 0) (by rw [HLL.out]; omega)
  rw [HLL.out] at hcall
  refine hcall.mono ?_
  clear hcall
  rintro e V ⟨h, hk⟩
  have KV := hid (KW.out.trans hk); have BV := hid (blk_keep BX.out hk (fun h => h))
  clear hk BX KW
  rcases h with ⟨k, x, rfl, hkl, hx, hq, hbe⟩ | ⟨rfl, hbe⟩
  · by_cases hxe : x.q = f.q
    · have hkm : k < m := by rw [HLL.out] at hkl; exact hkl
      have hne : (x.q == f.q) = true := by simp; omega
      obtain ⟨bx, ox, rfl, -, -, hc⟩ := frs_cells HL.out (by rw [HLL.out]; omega)
      have ik := keep_cell KV.out (fun h => h) (hc k x hx).1
      have b0 : V.cell? ⟨w.heap.size, 0, none⟩ = some (.int .i64 f.q) := blk_cell BV.out 0
      have q1 : (k : Int) < m := by omega
      have q2 : (0 : Int) ≤ k := by omega
      have q3 : ¬ ((k : Int) < 0) := by omega
      clear hc hq
      go_upto_region 4 with fail
      go_quiet (fail)
      clear ik b0
      have HLV : Hd (Frs K V (.slice (some ⟨bx, ox, none⟩) m c) l) := hid (HLK.out.keep KV.out (fun _ _ _ h => h))
      go_wp2_with fail
      refine (CloneFr_any K _ l _ ?hv (by rw [HLL.out]; omega)).mono ?_
      case hv => first | exact HLV.out | exact HLV.out.keep (S := fun _ => False) (Keeps.drew (Keeps.refl _ _)) (fun _ _ _ h => h) | exact HLV.out.keep (S := fun _ => False) (by repeat (first | (with_reducible exact Keeps.refl _ _) | (with_reducible apply Keeps.drewN) | (with_reducible apply Keeps.drew))) (fun _ _ _ h => h)
      rintro e w2 ⟨a3, c3, rfl, hp, hk3⟩
      rw [HLL.out] at hp ⊢
      have HP3 := hid hp
      have K3 : Hd (Keeps (fun _ => False) V w2) := hid (Keeps.trans (S := fun _ => False) (by repeat (first | (with_reducible exact Keeps.refl _ _) | (with_reducible apply Keeps.drewN) | (with_reducible apply Keeps.drew))) hk3)
      clear hp hk3
      go_wp2
      go_ret
      exact .inr ⟨k, x, a3, c3, hx, hxe, fun i y hi hy => hbe i y hi hy, rfl, HP3.out.sgs.mono (fun b _ h => by have z1 := KV.out.size; have z2 := (show V.heap.size ≤ _ from Nat.le_refl _); rcases h with h | h; exact .inl h.1; exact .inr (by first | omega | (simp at h; omega))), KV.out.trans K3.out⟩
    · have hkm : k < m := by rw [HLL.out] at hkl; exact hkl
      have hgt : f.q < x.q := by omega
      have hne : (x.q == f.q) = false := by simp; omega
      obtain ⟨bx, ox, rfl, -, -, hc⟩ := frs_cells HL.out (by rw [HLL.out]; omega)
      have ik := keep_cell KV.out (fun h => h) (hc k x hx).1
      have b0 : V.cell? ⟨w.heap.size, 0, none⟩ = some (.int .i64 f.q) := blk_cell BV.out 0
      have q1 : (k : Int) < m := by omega
      have q2 : (0 : Int) ≤ k := by omega
      have q3 : ¬ ((k : Int) < 0) := by omega
      clear hc hxe hq
      go_upto_region 4 with fail
      go_quiet (fail)
      clear ik b0
      obtain ⟨a1, hcut1, hr1⟩ := run_cut_full (P := Tryd.prog) (t := 31) Tryd.underlying31 hi hz1 (HROW.out.keep KV.out (fun _ _ _ h => h)) k (by omega)
      obtain ⟨a2, c2, hcut2, hr2⟩ := run_cut_from (P := Tryd.prog) (t := 31) Tryd.underlying31 hi hz1 (HROW.out.keep KV.out (fun _ _ _ h => h)) (lo := (k : Int)) k rfl (by omega)
      skip
      have Q1 := hid hr1; have Q2 := hid hr2
      clear hr1 hr2
      have L5 : Hd (Keeps (fun _ => False) V V) := hid (Keeps.refl _ _)
      have HSS : Hd (∀ w', Keeps (fun _ => False) V w' → (w'.cell? ⟨w.heap.size, 0, none⟩ = some (.int .i64 f.q) ∧ w'.cell? ⟨w.heap.size, 1, none⟩ = some (.int .i64 f.k) ∧ w'.cell? ⟨w.heap.size, 2, none⟩ = some (.bool f.u) ∧ w'.cell? ⟨w.heap.size, 3, none⟩ = some (.slice ad f.b.length cd) ∧ w'.cell? ⟨w.heap.size, 4, none⟩ = some (.int .u64 (f.t : Int)))) := hid (fun w' hk => by
        have := blk_keep BV.out hk (fun h => h)
        exact ⟨blk_cell this 0, blk_cell this 1, blk_cell this 2, blk_cell this 3, blk_cell this 4⟩)
      go_upto_region 6 with fail
      go_region_held_law (fun w' => w'.cell? ⟨w.heap.size, 0, none⟩ = some (.int .i64 f.q) ∧ w'.cell? ⟨w.heap.size, 1, none⟩ = some (.int .i64 f.k) ∧ w'.cell? ⟨w.heap.size, 2, none⟩ = some (.bool f.u) ∧ w'.cell? ⟨w.heap.size, 3, none⟩ = some (.slice ad f.b.length cd) ∧ w'.cell? ⟨w.heap.size, 4, none⟩ = some (.int .u64 (f.t : Int))) ((refine HSS.out _ ?_; repeat (first | (with_reducible exact K7.out) | (with_reducible exact K6.out) | (with_reducible exact (L5.out.mono (fun _ _ h => h.elim))) | (with_reducible exact Keeps.refl _ _) | (with_reducible apply Keeps.drewN) | (with_reducible apply Keeps.drew) | (with_reducible apply Keeps.alloc))))
        (first
        | (refine step_append_full rfl (.tmp 29) (.tmp 31) 31 rfl 25 i0 zz 5 56 Tryd.underlying31 hi hz0 hz1 hz2 hz3 (by decide) (fun b => b < w.heap.size) a1 (k) _ (by simp [Act.eval, Act.put]) (Q1.out.keep (S := fun _ => False) (by repeat (first | (with_reducible exact L5.out) | (with_reducible exact Keeps.refl _ _) | (with_reducible apply Keeps.drewN) | (with_reducible apply Keeps.drew) | (with_reducible apply Keeps.alloc))) (fun _ _ _ h => h)) ⟨V.heap.size, 0, none⟩ 1 1 (frCells f ad cd) (by simp [Act.eval, Act.put]) rfl (by exact lit_srcF _ _ _) (by intro u hu; simp [frCells] at hu; rcases hu with rfl | rfl | rfl | rfl | rfl <;> rfl) (by omega) (by simp [maxLen]; omega) (by omega) ?_; intro a6 c6 w6 hown6 hk6; have HO6 := hid (hown6.mono (K' := fun b => V.heap.size ≤ b) (fun b _ h => Nat.le_trans (Keeps.size (S := fun _ => False) (w := V) (by repeat (first | (with_reducible exact L5.out) | (with_reducible exact Keeps.refl _ _) | (with_reducible apply Keeps.drewN) | (with_reducible apply Keeps.drew) | (with_reducible apply Keeps.alloc)))) h)); have K6 : Hd (Keeps (fun _ => False) V w6) := hid (Keeps.trans (S := fun _ => False) (by repeat (first | (with_reducible exact L5.out) | (with_reducible exact Keeps.refl _ _) | (with_reducible apply Keeps.drewN) | (with_reducible apply Keeps.drew) | (with_reducible apply Keeps.alloc))) hk6); clear hown6 hk6))
      simp only [List.getElem_toArray, List.getElem_cons_succ, List.getElem_cons_zero, List.setIfInBounds_toArray, List.set_cons_zero, List.set_cons_succ]
      have ONE1 : Hd (∀ u ∈ (xs.drop ((k) * 5)).take ((m - k) * 5), u.oneCell' = true) := hid (fun u hu => HONE.out u (List.mem_of_mem_drop (List.mem_of_mem_take hu)))
      go_wp2_with (at_builtin; refine wpList_append_row rfl _ _ 31 rfl 25 i0 zz 5 56 Tryd.underlying31 hi hz0 hz1 hz2 hz3 (by decide) _ (fun b => b < w.heap.size) _ _ _ _ rfl HO6.out (m - k) _ rfl (Q2.out.keep K6.out (fun _ _ _ h => h)) ONE1.out ?h1 ?h2 ?_)
      case h1 => simp [maxLen]; omega
      case h2 => omega
      intro a7 c7 w7 hown7 hk7; try intro _
      have HO7 := hid hown7
      have K7 : Hd (Keeps (fun _ => False) V w7) := hid (K6.out.trans' hk7 (fun i hi h => by omega))
      clear hown7 hk7
      go_wp2
      go_ret
      have e1 : k + 1 + (m - k) = m + 1 := by omega
      have e2 : (xs.drop ((k) * 5)).take ((m - k) * 5) = xs.drop ((k) * 5) := List.take_of_length_le (by rw [List.length_drop, HROW.out.1]; omega)
      have e3 := HO7.out
      rw [e1, e2] at e3
      have zR := KV.out.size
      have z6 := K6.out.size
      try rw [e1]
      exact .inl ⟨k, a7, c7, by omega, fun i y hi hy => hbe i y (by first | exact hi | (rw [HLL.out]; exact hi)) hy, fun y hy => (by rw [hx] at hy; injection hy with hy; subst hy; exact hgt), rfl, (by rw [List.append_assoc]; exact e3.mono (fun b _ h => by rcases h with h | h <;> omega)), KV.out.trans K7.out⟩
  · have hlt : ¬ ((0 : Int) ≤ -1) := by omega
    obtain ⟨a1, hcut1, hr1⟩ := run_cut_full (P := Tryd.prog) (t := 31) Tryd.underlying31 hi hz1 (HROW.out.keep KV.out (fun _ _ _ h => h)) m (by omega)
    obtain ⟨a2, c2, hcut2, hr2⟩ := run_cut_from (P := Tryd.prog) (t := 31) Tryd.underlying31 hi hz1 (HROW.out.keep KV.out (fun _ _ _ h => h)) (lo := (m : Int)) m rfl (by omega)
    rw [Nat.sub_self] at hr2 hcut2
    have Q1 := hid hr1; have Q2 := hid hr2
    clear hr1 hr2
    have L5 : Hd (Keeps (fun _ => False) V V) := hid (Keeps.refl _ _)
    have HSS : Hd (∀ w', Keeps (fun _ => False) V w' → (w'.cell? ⟨w.heap.size, 0, none⟩ = some (.int .i64 f.q) ∧ w'.cell? ⟨w.heap.size, 1, none⟩ = some (.int .i64 f.k) ∧ w'.cell? ⟨w.heap.size, 2, none⟩ = some (.bool f.u) ∧ w'.cell? ⟨w.heap.size, 3, none⟩ = some (.slice ad f.b.length cd) ∧ w'.cell? ⟨w.heap.size, 4, none⟩ = some (.int .u64 (f.t : Int)))) := hid (fun w' hk => by
      have := blk_keep BV.out hk (fun h => h)
      exact ⟨blk_cell this 0, blk_cell this 1, blk_cell this 2, blk_cell this 3, blk_cell this 4⟩)
    go_upto_region 6 with fail
    go_region_held_law (fun w' => w'.cell? ⟨w.heap.size, 0, none⟩ = some (.int .i64 f.q) ∧ w'.cell? ⟨w.heap.size, 1, none⟩ = some (.int .i64 f.k) ∧ w'.cell? ⟨w.heap.size, 2, none⟩ = some (.bool f.u) ∧ w'.cell? ⟨w.heap.size, 3, none⟩ = some (.slice ad f.b.length cd) ∧ w'.cell? ⟨w.heap.size, 4, none⟩ = some (.int .u64 (f.t : Int))) ((refine HSS.out _ ?_; repeat (first | (with_reducible exact K7.out) | (with_reducible exact K6.out) | (with_reducible exact (L5.out.mono (fun _ _ h => h.elim))) | (with_reducible exact Keeps.refl _ _) | (with_reducible apply Keeps.drewN) | (with_reducible apply Keeps.drew) | (with_reducible apply Keeps.alloc))))
      (first
      | (refine step_append_full rfl (.tmp 29) (.tmp 31) 31 rfl 25 i0 zz 5 56 Tryd.underlying31 hi hz0 hz1 hz2 hz3 (by decide) (fun b => b < w.heap.size) a1 (m) _ (by simp [Act.eval, Act.put]) (Q1.out.keep (S := fun _ => False) (by repeat (first | (with_reducible exact L5.out) | (with_reducible exact Keeps.refl _ _) | (with_reducible apply Keeps.drewN) | (with_reducible apply Keeps.drew) | (with_reducible apply Keeps.alloc))) (fun _ _ _ h => h)) ⟨V.heap.size, 0, none⟩ 1 1 (frCells f ad cd) (by simp [Act.eval, Act.put]) rfl (by exact lit_srcF _ _ _) (by intro u hu; simp [frCells] at hu; rcases hu with rfl | rfl | rfl | rfl | rfl <;> rfl) (by omega) (by simp [maxLen]; omega) (by omega) ?_; intro a6 c6 w6 hown6 hk6; have HO6 := hid (hown6.mono (K' := fun b => V.heap.size ≤ b) (fun b _ h => Nat.le_trans (Keeps.size (S := fun _ => False) (w := V) (by repeat (first | (with_reducible exact L5.out) | (with_reducible exact Keeps.refl _ _) | (with_reducible apply Keeps.drewN) | (with_reducible apply Keeps.drew) | (with_reducible apply Keeps.alloc)))) h)); have K6 : Hd (Keeps (fun _ => False) V w6) := hid (Keeps.trans (S := fun _ => False) (by repeat (first | (with_reducible exact L5.out) | (with_reducible exact Keeps.refl _ _) | (with_reducible apply Keeps.drewN) | (with_reducible apply Keeps.drew) | (with_reducible apply Keeps.alloc))) hk6); clear hown6 hk6))
    simp only [List.getElem_toArray, List.getElem_cons_succ, List.getElem_cons_zero, List.setIfInBounds_toArray, List.set_cons_zero, List.set_cons_succ]
    have ONE1 : Hd (∀ u ∈ (xs.drop ((m) * 5)).take (0 * 5), u.oneCell' = true) := hid (fun u hu => HONE.out u (List.mem_of_mem_drop (List.mem_of_mem_take hu)))
    go_wp2_with (at_builtin; refine wpList_append_row rfl _ _ 31 rfl 25 i0 zz 5 56 Tryd.underlying31 hi hz0 hz1 hz2 hz3 (by decide) _ (fun b => b < w.heap.size) _ _ _ _ rfl HO6.out 0 _ rfl (Q2.out.keep K6.out (fun _ _ _ h => h)) ONE1.out ?h1 ?h2 ?_)
    case h1 => simp [maxLen]; omega
    case h2 => omega
    intro a7 c7 w7 hown7 hk7; try intro _
    have HO7 := hid hown7
    have K7 : Hd (Keeps (fun _ => False) V w7) := hid (K6.out.trans' hk7 (fun i hi h => by omega))
    clear hown7 hk7
    go_wp2
    go_ret
    have e1 : m + 1 + 0 = m + 1 := by omega
    have e2 : (xs.drop ((m) * 5)).take (0 * 5) = xs.drop ((m) * 5) := List.take_of_length_le (by rw [List.length_drop, HROW.out.1]; omega)
    have e3 := HO7.out
    have e4 : xs.drop (m * 5) = [] := List.drop_eq_nil_of_le (by rw [HROW.out.1]; exact Nat.le_refl _)
    have zR := KV.out.size
    have z6 := K6.out.size
    try rw [e1]
    exact .inl ⟨m, a7, c7, by omega, fun i y hi hy => hbe i y (by first | exact hi | (rw [HLL.out]; exact hi)) hy, fun y hy => (by rw [List.getElem?_eq_none (by rw [HLL.out]; exact Nat.le_refl _)] at hy; cases hy), rfl, (by rw [e4, List.append_nil]; exact e3.mono (fun b _ h => by rcases h with h | h <;> omega)), KV.out.trans K7.out⟩
end Go.Proofs.YthoikljmokkchaaDoor
