/- File: the reference's Answer; Same. -/
import Derived.Test.YtgeicbjlichdgaaDoorFileD
namespace Go.Proofs.YtgeicbjlichdgaaDoor
open Go.RowKit
attribute [local go_sem ↓] Go.wp_at_zero Go.wp_at_succ
set_option maxRecDepth 100000 in set_option maxHeartbeats 1000000 in
theorem refAnswer_any (KA : Nat → Prop) (v vg : Value) (b : List Nat) (gs : List (Int × Int)) (id z : Int) (w : World) (hKA : ∀ k, KA k → k < w.heap.size) (hv : Sl (fun k => KA k ∧ k < w.heap.size) w v (u8s b)) (hb : ∀ c ∈ b, c < 256) (hg : Gps (fun k => k < w.heap.size) w vg gs) (hgl : gs.length ≤ 1000000)
    (hm : b.length ≤ 65538) :
    Calls Tryd.prog 19 #[.int .i64 id, v, vg, .int .i64 z] w fun e w' => SgRetK KA w (answerL id b gs z) e w' := by
  obtain ⟨i0, zz, hi, hz0, hz1, hz2, hz3⟩ := sg_parts
  have HB := hid hb; have HV := hid hv; have HG := hid hg; have HKA := hid hKA
  obtain ⟨av, cv, rfl, _⟩ := hv.bytes
  obtain ⟨ag, cg, rfl, _⟩ := Row.form hg
  clear hb hv hg hKA
  have HA0 : Hd (answerL id b gs z = if fitsL b z ≠ 0 ∨ gs = [] then [] else if b = [] then [⟨id, 0, 0, 0, []⟩] else gs.flatMap (gapR id b z)) := hid rfl
  obtain ⟨A, hA⟩ : ∃ A, answerL id b gs z = A := ⟨_, rfl⟩
  rw [hA] at HA0 ⊢
  clear hA
  have HFI : Hd (fitsL b z = if z < 1 ∨ 256 < z then 1 else if 65536 < b.length then 2 else 0) := hid rfl
  generalize hbl : b.length = n at *
  have HBL := hid hbl; clear hbl
  generalize hll : gs.length = m at *
  have HLL := hid hll; clear hll
  have HNIL : Hd ((fitsL b z ≠ 0 ∨ gs = []) → SgRetK KA w A (.returned (.slice none 0 0)) w) := hid (fun h => by
    rw [HA0.out, if_pos h]
    exact ⟨none, 0, 0, rfl, rfl, SgP.nil _ _ _, Keeps.refl _ _⟩)
  have hz0' : z < 1 ∨ 256 < z ∨ (1 ≤ z ∧ z ≤ 256) := by omega
  go_enter Tryd.func19, Tryd.ntmps19
  rcases hz0' with h | h | h
  · have d1 : decide (z < 1) = true := by simp; exact h
    have HR := hid (HNIL.out (.inl (by rw [HFI.out, if_pos (.inl h)]; omega)))
    clear h
    go_wp2
    go_ret
    exact HR.out
  · have d1 : decide (z < 1) = false := by simp; omega
    have d2 : decide (256 < z) = true := by simp; exact h
    have HR := hid (HNIL.out (.inl (by rw [HFI.out, if_pos (.inr h)]; omega)))
    clear h
    go_wp2
    go_ret
    exact HR.out
  · have d1 : decide (z < 1) = false := by simp; omega
    have d2 : decide (256 < z) = false := by simp; omega
    have HZ := hid h
    have HNF : Hd (¬ (z < 1 ∨ 256 < z)) := hid (by omega)
    clear h
    by_cases h3 : 65536 < n
    · have d3 : decide ((65536 : Int) < n) = true := by simp; omega
      have HR := hid (HNIL.out (.inl (by rw [HFI.out, if_neg HNF.out, if_pos h3]; omega)))
      clear h3
      go_wp2
      go_ret
      exact HR.out
    · have d3 : decide ((65536 : Int) < n) = false := by simp; omega
      have HF0 : Hd (fitsL b z = 0) := hid (by rw [HFI.out, if_neg HNF.out, if_neg h3])
      have hn6 : n ≤ 65536 := by omega
      clear h3
      by_cases hm0 : m = 0
      · have d4 : ((m : Int) == 0) = true := by simp; omega
        have HR := hid (HNIL.out (.inr (List.eq_nil_of_length_eq_zero (by rw [HLL.out]; exact hm0))))
        clear hm0
        go_wp2
        go_ret
        exact HR.out
      · have d4 : ((m : Int) == 0) = false := by simp; omega
        have HNE : Hd (¬ (fitsL b z ≠ 0 ∨ gs = [])) := hid (by rw [HF0.out]; intro h; rcases h with h | h; exact h rfl; rw [h] at HLL; exact hm0 HLL.out.symm)
        by_cases hn0 : n = 0
        · have d5 : ((n : Int) == 0) = true := by simp; omega
          have HE : Hd (A = [⟨id, 0, 0, 0, []⟩]) := hid (by rw [HA0.out, if_neg HNE.out, if_pos (List.eq_nil_of_length_eq_zero (by rw [HBL.out]; exact hn0))])
          clear hm0 hn0
          go_wp2_with fail
          refine (refempty_any KA id w).mono ?_
          rw [← HE.out]
          rintro e w2 ⟨a3, n3, c3, rfl, hn3, hp3, hk3⟩
          have HR : Hd (SgRetK KA w A (.returned (.slice a3 n3 c3)) w2) := hid ⟨a3, n3, c3, rfl, hn3, hp3, hk3⟩
          clear hn3 hp3 hk3 HE
          go_wp2
          go_ret
          exact HR.out
        · have d5 : ((n : Int) == 0) = false := by simp; omega
          have HRET : Hd (A = gs.flatMap (gapR id b z)) := hid (by rw [HA0.out, if_neg HNE.out, if_neg (fun h => by rw [h] at HBL; exact hn0 HBL.out.symm)])
          clear hm0 hn0 HNIL HA0
          go_wp2_with fail
          go_loopw [9, 10] (fun lv iv wr => ∃ (k : Nat) (a : Option Addr) (acc : List Seg) (c : Nat), lv = .slice a acc.length c ∧ iv = .int .i64 k ∧ k ≤ m ∧ Hd (acc = (gs.take k).flatMap (gapR id b z)) ∧ Hd (SgP KA w.heap.size wr (.slice a acc.length c) acc) ∧ Hd (Keeps (fun _ => False) w wr)) (fun _ x _ => m - (intOf x).toNat)
          case atStart => exact ⟨0, none, [], 0, rfl, rfl, Nat.zero_le _, hid (by simp), hid (SgP.nil _ _ _), hid (Keeps.refl _ _)⟩
          case round =>
            obtain ⟨k, a, acc, c, rfl, rfl, hk, HE, HP, HK⟩ := hrel
            have hal : acc.length ≤ k * n := by
              have h := flat_len_le (gapR id b z) b.length (gapR_len id b z) (gs.take k)
              rw [← HE.out, List.length_take, HLL.out, HBL.out, Nat.min_eq_left hk] at h; exact h
            by_cases hkm : k < m
            · obtain ⟨g, hgk⟩ : ∃ g, gs[k]? = some g := ⟨gs[k]'(by rw [HLL.out]; exact hkm), List.getElem?_eq_getElem _⟩
              obtain ⟨bb, ob, rfl, hb1, hb2, y0, y1⟩ := gps_at HG.out hgk
              have HE2 : Hd (acc ++ gapR id b z g = (gs.take (k + 1)).flatMap (gapR id b z)) := hid (by
                rw [List.take_add_one, hgk, List.flatMap_append, ← HE.out]; simp)
              have hgl2 : (gapR id b z g).length ≤ n := by have h := gapR_len id b z g; rw [HBL.out] at h; exact h
              have HSS : Hd (∀ w', Keeps (fun b => w.heap.size ≤ b) wr w' → (w'.cell? ⟨bb, ob + k * 2, none⟩ = some (.int .i64 g.1) ∧ w'.cell? ⟨bb, ob + k * 2 + 1, none⟩ = some (.int .i64 g.2))) :=
                hid (fun w' hk => ⟨keep_cell hk (fun h => by omega) (keep_cell HK.out (fun h => h) y0), keep_cell hk (fun h => by omega) (keep_cell HK.out (fun h => h) y1)⟩)
              have k1 : (k : Int) < m := by omega
              have k2 : (0 : Int) ≤ k := by omega
              have hkn : k * n ≤ 1000000 * 65538 := Nat.mul_le_mul (by omega) hm
              have zr := HK.out.size
              have HVR := hid (HV.out.keep HK.out (fun _ _ _ h => h))
              have HGR : Hd (gapR id b z g = rangeS id b (max g.1 0) (min g.2 n) z) := hid (by unfold gapR; rw [HBL.out])
              obtain ⟨xs, hxo, hge, hxc⟩ := HP.out
              have HO := hid hxo; have HGE := hid hge; have HXC := hid hxc; have HLT : Hd (∀ b, (Value.slice a acc.length c).ownBlock = some b → b < wr.heap.size) := hid (fun b hb => (hxo.1.lt b hb).2)
              clear hxo hge hxc HP y0 y1 hgk
              obtain ⟨g1, g2⟩ := g
              simp only [] at HSS HGR HE2 hgl2
              have KC : Hd (Keeps (fun _ => False) wr wr) := hid (Keeps.refl _ _)
              rcases Int.lt_or_le g1 0 with hg1 | hg1
              · rcases Int.lt_or_le n g2 with hg2 | hg2
                · have HQ : Hd (gapR id b z (g1, g2) = rangeS id b (0) (n) z) := hid (by rw [HGR.out]; congr 1 <;> omega)
                  have e1 : decide (g1 < 0) = true := by simp; exact hg1
                  have e2 : decide ((n : Int) < g2) = true := by simp; exact hg2
                  generalize hGL : gapR id b z (g1, g2) = G at *
                  clear HGR hGL
                  go_upto_region 9 with fail
                  go_region_held_law (fun w' => w'.cell? ⟨bb, ob + k * 2, none⟩ = some (.int .i64 g1) ∧ w'.cell? ⟨bb, ob + k * 2 + 1, none⟩ = some (.int .i64 g2)) (exact HSS.out _ (by first | (refine Keeps.mono (S := fun _ => False) ?_ (fun _ _ h => h.elim); (repeat (first | (with_reducible exact KC.out) | (with_reducible exact Keeps.refl _ _) | (with_reducible apply Keeps.drewN) | (with_reducible apply Keeps.drew) | (with_reducible apply Keeps.alloc))); done) | (repeat (first | (with_reducible exact K7.out) | (with_reducible exact Keeps.refl _ _) | (with_reducible apply Keeps.drewN) | (with_reducible apply Keeps.drew) | (with_reducible apply Keeps.alloc)))))
                    (first
                    | (go_at_call 41; refine (refRange_any KA _ b id (0) (n) z _ ((HVR.out.keep (S := fun _ => False) (by repeat (first | (with_reducible exact KC.out) | (with_reducible exact Keeps.refl _ _) | (with_reducible apply Keeps.drewN) | (with_reducible apply Keeps.drew) | (with_reducible apply Keeps.alloc))) (fun _ _ _ h => h)).mono (fun b h1 h2 => ⟨h2.1, h1⟩)) HB.out (by rw [HBL.out]; exact hm) (by omega) (by rw [HBL.out]; omega) HZ.out).mono ?_; rw [← HQ.out]; rintro e w6 ⟨a6, n6, c6, rfl, rfl, hp6, hk6⟩; have KC2 : Hd (Keeps (fun _ => False) wr w6) := hid (Keeps.trans (S := fun _ => False) (by repeat (first | (with_reducible exact KC.out) | (with_reducible exact Keeps.refl _ _) | (with_reducible apply Keeps.drewN) | (with_reducible apply Keeps.drew) | (with_reducible apply Keeps.alloc))) hk6); have K6 := hid KC2.out; replace KC := KC2; have z6 := KC.out.size; obtain ⟨ns, hno, hnge, hnc⟩ := hp6; have HNR : Hd (Row (fun _ => True) w6 5 (.slice a6 G.length c6) G.length ns) := hid (hno.row.mono (fun _ _ _ => trivial)); have HNC := hid hnc; have HN1S := hid hnc.ones; clear hno hnge hnc hk6; have L6 : Hd (Keeps (fun _ => False) w6 w6) := hid (Keeps.refl _ _))
                    | (refine step_append_own_row rfl (.tmp 38) (.tmp 56) 23 rfl 44 i0 zz 5 56 Tryd.underlying23 hi hz0 hz1 hz2 hz3 (by decide) _ (fun _ => True) (.slice a acc.length c) (.slice a6 G.length c6) acc.length xs (by simp [Act.eval]) (HO.out.keep (S := fun _ => False) (by repeat (first | (with_reducible exact KC.out) | (with_reducible exact Keeps.refl _ _) | (with_reducible apply Keeps.drewN) | (with_reducible apply Keeps.drew) | (with_reducible apply Keeps.alloc))) (fun _ _ _ h => h)) G.length ns (by simp [Act.eval]) (HNR.out.keep (S := fun _ => False) (by repeat (first | (with_reducible exact L6.out) | (with_reducible exact Keeps.refl _ _) | (with_reducible apply Keeps.drewN) | (with_reducible apply Keeps.drew) | (with_reducible apply Keeps.alloc))) (fun _ _ _ h => h)) HN1S.out (by simp [maxLen]; omega) (by omega) ?_; intro a7 c7 w7 hown7 hk7; have KV : Hd (Keeps (fun _ => False) w6 _) := hid (Keeps.refl _ _); have K7 : Hd (Keeps (fun b => w.heap.size ≤ b) wr w7) := hid (((KC.out.mono (fun _ _ h => h.elim)).trans (Keeps.trans (S := fun b => (Value.slice a acc.length c).ownBlock = some b) (by repeat (first | (with_reducible exact L6.out) | (with_reducible exact Keeps.refl _ _) | (with_reducible apply Keeps.drewN) | (with_reducible apply Keeps.drew) | (with_reducible apply Keeps.alloc))) hk7)).mono (fun b _ h => HGE.out b h)))
                    )
                  all_goals
                    have HP7 : Hd (SgP KA w.heap.size w7 (.slice a7 (acc.length + G.length) c7) (acc ++ G)) := hid (sgp_append HGE.out HXC.out K6.out (HNC.out.mono (fun b _ h => ⟨h.1, fun e => by have := HGE.out b e; have := HKA.out b h.1; omega⟩)) (by omega) hown7 hk7)
                    have K8 : Hd (Keeps (fun _ => False) w w7) := hid ((HK.out.trans K6.out).trans' hk7 (fun i hi e => by have := HGE.out i e; omega))
                    clear hown7 hk7 HO HGE HXC HLT HNR HNC HN1S K7 K6 KC KC2 L6 KV
                    go_wp2
                    go_roundw
                    case rel => exact ⟨k + 1, a7, acc ++ G, c7, by rw [List.length_append], by go_num, by omega, HE2, by rw [List.length_append]; exact HP7, K8⟩
                    case measure => simp [intOf]; omega
                · have HQ : Hd (gapR id b z (g1, g2) = rangeS id b (0) (g2) z) := hid (by rw [HGR.out]; congr 1 <;> omega)
                  have e1 : decide (g1 < 0) = true := by simp; exact hg1
                  have e2 : decide ((n : Int) < g2) = false := by simp; exact hg2
                  have e2' : ¬ (n : Int) < g2 := by omega
                  generalize hGL : gapR id b z (g1, g2) = G at *
                  clear HGR hGL
                  go_upto_region 9 with fail
                  go_region_held_law (fun w' => w'.cell? ⟨bb, ob + k * 2, none⟩ = some (.int .i64 g1) ∧ w'.cell? ⟨bb, ob + k * 2 + 1, none⟩ = some (.int .i64 g2)) (exact HSS.out _ (by first | (refine Keeps.mono (S := fun _ => False) ?_ (fun _ _ h => h.elim); (repeat (first | (with_reducible exact KC.out) | (with_reducible exact Keeps.refl _ _) | (with_reducible apply Keeps.drewN) | (with_reducible apply Keeps.drew) | (with_reducible apply Keeps.alloc))); done) | (repeat (first | (with_reducible exact K7.out) | (with_reducible exact Keeps.refl _ _) | (with_reducible apply Keeps.drewN) | (with_reducible apply Keeps.drew) | (with_reducible apply Keeps.alloc)))))
                    (first
                    | (go_at_call 41; refine (refRange_any KA _ b id (0) (g2) z _ ((HVR.out.keep (S := fun _ => False) (by repeat (first | (with_reducible exact KC.out) | (with_reducible exact Keeps.refl _ _) | (with_reducible apply Keeps.drewN) | (with_reducible apply Keeps.drew) | (with_reducible apply Keeps.alloc))) (fun _ _ _ h => h)).mono (fun b h1 h2 => ⟨h2.1, h1⟩)) HB.out (by rw [HBL.out]; exact hm) (by omega) (by rw [HBL.out]; omega) HZ.out).mono ?_; rw [← HQ.out]; rintro e w6 ⟨a6, n6, c6, rfl, rfl, hp6, hk6⟩; have KC2 : Hd (Keeps (fun _ => False) wr w6) := hid (Keeps.trans (S := fun _ => False) (by repeat (first | (with_reducible exact KC.out) | (with_reducible exact Keeps.refl _ _) | (with_reducible apply Keeps.drewN) | (with_reducible apply Keeps.drew) | (with_reducible apply Keeps.alloc))) hk6); have K6 := hid KC2.out; replace KC := KC2; have z6 := KC.out.size; obtain ⟨ns, hno, hnge, hnc⟩ := hp6; have HNR : Hd (Row (fun _ => True) w6 5 (.slice a6 G.length c6) G.length ns) := hid (hno.row.mono (fun _ _ _ => trivial)); have HNC := hid hnc; have HN1S := hid hnc.ones; clear hno hnge hnc hk6; have L6 : Hd (Keeps (fun _ => False) w6 w6) := hid (Keeps.refl _ _))
                    | (refine step_append_own_row rfl (.tmp 38) (.tmp 56) 23 rfl 44 i0 zz 5 56 Tryd.underlying23 hi hz0 hz1 hz2 hz3 (by decide) _ (fun _ => True) (.slice a acc.length c) (.slice a6 G.length c6) acc.length xs (by simp [Act.eval]) (HO.out.keep (S := fun _ => False) (by repeat (first | (with_reducible exact KC.out) | (with_reducible exact Keeps.refl _ _) | (with_reducible apply Keeps.drewN) | (with_reducible apply Keeps.drew) | (with_reducible apply Keeps.alloc))) (fun _ _ _ h => h)) G.length ns (by simp [Act.eval]) (HNR.out.keep (S := fun _ => False) (by repeat (first | (with_reducible exact L6.out) | (with_reducible exact Keeps.refl _ _) | (with_reducible apply Keeps.drewN) | (with_reducible apply Keeps.drew) | (with_reducible apply Keeps.alloc))) (fun _ _ _ h => h)) HN1S.out (by simp [maxLen]; omega) (by omega) ?_; intro a7 c7 w7 hown7 hk7; have KV : Hd (Keeps (fun _ => False) w6 _) := hid (Keeps.refl _ _); have K7 : Hd (Keeps (fun b => w.heap.size ≤ b) wr w7) := hid (((KC.out.mono (fun _ _ h => h.elim)).trans (Keeps.trans (S := fun b => (Value.slice a acc.length c).ownBlock = some b) (by repeat (first | (with_reducible exact L6.out) | (with_reducible exact Keeps.refl _ _) | (with_reducible apply Keeps.drewN) | (with_reducible apply Keeps.drew) | (with_reducible apply Keeps.alloc))) hk7)).mono (fun b _ h => HGE.out b h)))
                    )
                  all_goals
                    have HP7 : Hd (SgP KA w.heap.size w7 (.slice a7 (acc.length + G.length) c7) (acc ++ G)) := hid (sgp_append HGE.out HXC.out K6.out (HNC.out.mono (fun b _ h => ⟨h.1, fun e => by have := HGE.out b e; have := HKA.out b h.1; omega⟩)) (by omega) hown7 hk7)
                    have K8 : Hd (Keeps (fun _ => False) w w7) := hid ((HK.out.trans K6.out).trans' hk7 (fun i hi e => by have := HGE.out i e; omega))
                    clear hown7 hk7 HO HGE HXC HLT HNR HNC HN1S K7 K6 KC KC2 L6 KV
                    go_wp2
                    go_roundw
                    case rel => exact ⟨k + 1, a7, acc ++ G, c7, by rw [List.length_append], by go_num, by omega, HE2, by rw [List.length_append]; exact HP7, K8⟩
                    case measure => simp [intOf]; omega
              · rcases Int.lt_or_le n g2 with hg2 | hg2
                · have HQ : Hd (gapR id b z (g1, g2) = rangeS id b (g1) (n) z) := hid (by rw [HGR.out]; congr 1 <;> omega)
                  have e1 : decide (g1 < 0) = false := by simp; exact hg1
                  have e1' : ¬ g1 < 0 := by omega
                  have e2 : decide ((n : Int) < g2) = true := by simp; exact hg2
                  generalize hGL : gapR id b z (g1, g2) = G at *
                  clear HGR hGL
                  go_upto_region 9 with fail
                  go_region_held_law (fun w' => w'.cell? ⟨bb, ob + k * 2, none⟩ = some (.int .i64 g1) ∧ w'.cell? ⟨bb, ob + k * 2 + 1, none⟩ = some (.int .i64 g2)) (exact HSS.out _ (by first | (refine Keeps.mono (S := fun _ => False) ?_ (fun _ _ h => h.elim); (repeat (first | (with_reducible exact KC.out) | (with_reducible exact Keeps.refl _ _) | (with_reducible apply Keeps.drewN) | (with_reducible apply Keeps.drew) | (with_reducible apply Keeps.alloc))); done) | (repeat (first | (with_reducible exact K7.out) | (with_reducible exact Keeps.refl _ _) | (with_reducible apply Keeps.drewN) | (with_reducible apply Keeps.drew) | (with_reducible apply Keeps.alloc)))))
                    (first
                    | (go_at_call 41; refine (refRange_any KA _ b id (g1) (n) z _ ((HVR.out.keep (S := fun _ => False) (by repeat (first | (with_reducible exact KC.out) | (with_reducible exact Keeps.refl _ _) | (with_reducible apply Keeps.drewN) | (with_reducible apply Keeps.drew) | (with_reducible apply Keeps.alloc))) (fun _ _ _ h => h)).mono (fun b h1 h2 => ⟨h2.1, h1⟩)) HB.out (by rw [HBL.out]; exact hm) (by omega) (by rw [HBL.out]; omega) HZ.out).mono ?_; rw [← HQ.out]; rintro e w6 ⟨a6, n6, c6, rfl, rfl, hp6, hk6⟩; have KC2 : Hd (Keeps (fun _ => False) wr w6) := hid (Keeps.trans (S := fun _ => False) (by repeat (first | (with_reducible exact KC.out) | (with_reducible exact Keeps.refl _ _) | (with_reducible apply Keeps.drewN) | (with_reducible apply Keeps.drew) | (with_reducible apply Keeps.alloc))) hk6); have K6 := hid KC2.out; replace KC := KC2; have z6 := KC.out.size; obtain ⟨ns, hno, hnge, hnc⟩ := hp6; have HNR : Hd (Row (fun _ => True) w6 5 (.slice a6 G.length c6) G.length ns) := hid (hno.row.mono (fun _ _ _ => trivial)); have HNC := hid hnc; have HN1S := hid hnc.ones; clear hno hnge hnc hk6; have L6 : Hd (Keeps (fun _ => False) w6 w6) := hid (Keeps.refl _ _))
                    | (refine step_append_own_row rfl (.tmp 38) (.tmp 56) 23 rfl 44 i0 zz 5 56 Tryd.underlying23 hi hz0 hz1 hz2 hz3 (by decide) _ (fun _ => True) (.slice a acc.length c) (.slice a6 G.length c6) acc.length xs (by simp [Act.eval]) (HO.out.keep (S := fun _ => False) (by repeat (first | (with_reducible exact KC.out) | (with_reducible exact Keeps.refl _ _) | (with_reducible apply Keeps.drewN) | (with_reducible apply Keeps.drew) | (with_reducible apply Keeps.alloc))) (fun _ _ _ h => h)) G.length ns (by simp [Act.eval]) (HNR.out.keep (S := fun _ => False) (by repeat (first | (with_reducible exact L6.out) | (with_reducible exact Keeps.refl _ _) | (with_reducible apply Keeps.drewN) | (with_reducible apply Keeps.drew) | (with_reducible apply Keeps.alloc))) (fun _ _ _ h => h)) HN1S.out (by simp [maxLen]; omega) (by omega) ?_; intro a7 c7 w7 hown7 hk7; have KV : Hd (Keeps (fun _ => False) w6 _) := hid (Keeps.refl _ _); have K7 : Hd (Keeps (fun b => w.heap.size ≤ b) wr w7) := hid (((KC.out.mono (fun _ _ h => h.elim)).trans (Keeps.trans (S := fun b => (Value.slice a acc.length c).ownBlock = some b) (by repeat (first | (with_reducible exact L6.out) | (with_reducible exact Keeps.refl _ _) | (with_reducible apply Keeps.drewN) | (with_reducible apply Keeps.drew) | (with_reducible apply Keeps.alloc))) hk7)).mono (fun b _ h => HGE.out b h)))
                    )
                  all_goals
                    have HP7 : Hd (SgP KA w.heap.size w7 (.slice a7 (acc.length + G.length) c7) (acc ++ G)) := hid (sgp_append HGE.out HXC.out K6.out (HNC.out.mono (fun b _ h => ⟨h.1, fun e => by have := HGE.out b e; have := HKA.out b h.1; omega⟩)) (by omega) hown7 hk7)
                    have K8 : Hd (Keeps (fun _ => False) w w7) := hid ((HK.out.trans K6.out).trans' hk7 (fun i hi e => by have := HGE.out i e; omega))
                    clear hown7 hk7 HO HGE HXC HLT HNR HNC HN1S K7 K6 KC KC2 L6 KV
                    go_wp2
                    go_roundw
                    case rel => exact ⟨k + 1, a7, acc ++ G, c7, by rw [List.length_append], by go_num, by omega, HE2, by rw [List.length_append]; exact HP7, K8⟩
                    case measure => simp [intOf]; omega
                · have HQ : Hd (gapR id b z (g1, g2) = rangeS id b (g1) (g2) z) := hid (by rw [HGR.out]; congr 1 <;> omega)
                  have e1 : decide (g1 < 0) = false := by simp; exact hg1
                  have e1' : ¬ g1 < 0 := by omega
                  have e2 : decide ((n : Int) < g2) = false := by simp; exact hg2
                  have e2' : ¬ (n : Int) < g2 := by omega
                  generalize hGL : gapR id b z (g1, g2) = G at *
                  clear HGR hGL
                  go_upto_region 9 with fail
                  go_region_held_law (fun w' => w'.cell? ⟨bb, ob + k * 2, none⟩ = some (.int .i64 g1) ∧ w'.cell? ⟨bb, ob + k * 2 + 1, none⟩ = some (.int .i64 g2)) (exact HSS.out _ (by first | (refine Keeps.mono (S := fun _ => False) ?_ (fun _ _ h => h.elim); (repeat (first | (with_reducible exact KC.out) | (with_reducible exact Keeps.refl _ _) | (with_reducible apply Keeps.drewN) | (with_reducible apply Keeps.drew) | (with_reducible apply Keeps.alloc))); done) | (repeat (first | (with_reducible exact K7.out) | (with_reducible exact Keeps.refl _ _) | (with_reducible apply Keeps.drewN) | (with_reducible apply Keeps.drew) | (with_reducible apply Keeps.alloc)))))
                    (first
                    | (go_at_call 41; refine (refRange_any KA _ b id (g1) (g2) z _ ((HVR.out.keep (S := fun _ => False) (by repeat (first | (with_reducible exact KC.out) | (with_reducible exact Keeps.refl _ _) | (with_reducible apply Keeps.drewN) | (with_reducible apply Keeps.drew) | (with_reducible apply Keeps.alloc))) (fun _ _ _ h => h)).mono (fun b h1 h2 => ⟨h2.1, h1⟩)) HB.out (by rw [HBL.out]; exact hm) (by omega) (by rw [HBL.out]; omega) HZ.out).mono ?_; rw [← HQ.out]; rintro e w6 ⟨a6, n6, c6, rfl, rfl, hp6, hk6⟩; have KC2 : Hd (Keeps (fun _ => False) wr w6) := hid (Keeps.trans (S := fun _ => False) (by repeat (first | (with_reducible exact KC.out) | (with_reducible exact Keeps.refl _ _) | (with_reducible apply Keeps.drewN) | (with_reducible apply Keeps.drew) | (with_reducible apply Keeps.alloc))) hk6); have K6 := hid KC2.out; replace KC := KC2; have z6 := KC.out.size; obtain ⟨ns, hno, hnge, hnc⟩ := hp6; have HNR : Hd (Row (fun _ => True) w6 5 (.slice a6 G.length c6) G.length ns) := hid (hno.row.mono (fun _ _ _ => trivial)); have HNC := hid hnc; have HN1S := hid hnc.ones; clear hno hnge hnc hk6; have L6 : Hd (Keeps (fun _ => False) w6 w6) := hid (Keeps.refl _ _))
                    | (refine step_append_own_row rfl (.tmp 38) (.tmp 56) 23 rfl 44 i0 zz 5 56 Tryd.underlying23 hi hz0 hz1 hz2 hz3 (by decide) _ (fun _ => True) (.slice a acc.length c) (.slice a6 G.length c6) acc.length xs (by simp [Act.eval]) (HO.out.keep (S := fun _ => False) (by repeat (first | (with_reducible exact KC.out) | (with_reducible exact Keeps.refl _ _) | (with_reducible apply Keeps.drewN) | (with_reducible apply Keeps.drew) | (with_reducible apply Keeps.alloc))) (fun _ _ _ h => h)) G.length ns (by simp [Act.eval]) (HNR.out.keep (S := fun _ => False) (by repeat (first | (with_reducible exact L6.out) | (with_reducible exact Keeps.refl _ _) | (with_reducible apply Keeps.drewN) | (with_reducible apply Keeps.drew) | (with_reducible apply Keeps.alloc))) (fun _ _ _ h => h)) HN1S.out (by simp [maxLen]; omega) (by omega) ?_; intro a7 c7 w7 hown7 hk7; have KV : Hd (Keeps (fun _ => False) w6 _) := hid (Keeps.refl _ _); have K7 : Hd (Keeps (fun b => w.heap.size ≤ b) wr w7) := hid (((KC.out.mono (fun _ _ h => h.elim)).trans (Keeps.trans (S := fun b => (Value.slice a acc.length c).ownBlock = some b) (by repeat (first | (with_reducible exact L6.out) | (with_reducible exact Keeps.refl _ _) | (with_reducible apply Keeps.drewN) | (with_reducible apply Keeps.drew) | (with_reducible apply Keeps.alloc))) hk7)).mono (fun b _ h => HGE.out b h)))
                    )
                  all_goals
                    have HP7 : Hd (SgP KA w.heap.size w7 (.slice a7 (acc.length + G.length) c7) (acc ++ G)) := hid (sgp_append HGE.out HXC.out K6.out (HNC.out.mono (fun b _ h => ⟨h.1, fun e => by have := HGE.out b e; have := HKA.out b h.1; omega⟩)) (by omega) hown7 hk7)
                    have K8 : Hd (Keeps (fun _ => False) w w7) := hid ((HK.out.trans K6.out).trans' hk7 (fun i hi e => by have := HGE.out i e; omega))
                    clear hown7 hk7 HO HGE HXC HLT HNR HNC HN1S K7 K6 KC KC2 L6 KV
                    go_wp2
                    go_roundw
                    case rel => exact ⟨k + 1, a7, acc ++ G, c7, by rw [List.length_append], by go_num, by omega, HE2, by rw [List.length_append]; exact HP7, K8⟩
                    case measure => simp [intOf]; omega
            · obtain rfl : k = m := by omega
              have k0 : ¬ ((k : Int) < k) := by omega
              have HR : Hd (SgRetK KA w A (.returned (.slice a acc.length c)) wr) := hid (by
                have e : acc = A := by rw [HE.out, ← HLL.out, List.take_length, HRET.out]
                rw [← e]
                exact ⟨a, _, c, rfl, rfl, HP.out, HK.out⟩)
              clear HE HP HK HRET
              go_wp2
              go_ret
              exact HR.out
end Go.Proofs.YtgeicbjlichdgaaDoor
