/- Link: the reference's Same; the windows' Check. -/
import Derived.Test.YtjapmpolagblaaaLinkQ
namespace Go.Proofs.Ytjapmpolagblaaa
open Go.RowKit
attribute [local go_sem ↓] Go.wp_at_zero Go.wp_at_succ
theorem ars_one {K : Nat → Prop} {A : World} {g : Nat} {x : Flt} {ad : Option Addr} {cd : Nat} (h : Blk A g #[.int .i64 x.f, .int .i64 x.g, .slice ad x.d.length cd] 37) (hs : Sl K A (.slice ad x.d.length cd) (u8s x.d)) : Ars (fun _ => True) A (.slice (some ⟨g, 0, none⟩) 1 1) [x] := by
  refine ⟨[.int .i64 x.f, .int .i64 x.g, .slice ad x.d.length cd], ⟨rfl, .inr ⟨_, 1, rfl, Nat.le_refl _, by decide, fun _ => ⟨g, 0, rfl, trivial, blk_lt h, fun j hj => ?_⟩⟩⟩, fun i y hy => ?_⟩
  · rw [Nat.zero_add, blk_cell h j]
    match j, hj with
    | 0, _ => rfl
    | 1, _ => rfl
    | 2, _ => rfl
    | j + 3, hj => simp at hj; omega
  · match i, hy with
    | 0, hy =>
      simp at hy; subst hy
      exact ⟨rfl, rfl, hs.mono (fun _ _ _ => trivial)⟩
    | i + 1, hy => simp at hy
set_option maxRecDepth 100000 in set_option maxHeartbeats 1000000 in
theorem Same_any (K1 K2 : Nat → Prop) (v1 v2 : Value) (l : List Flt) (cn : Int) (w : World) (h1 : Fls K1 w v1 l) (h2 : Fls K2 w v2 l) (hm : l.length ≤ 1000000) (hb : ∀ x ∈ l, ∀ c ∈ x.d, c < 256) :
    Calls Try.prog 16 #[.agg #[v1, .int .i64 cn], .agg #[v2, .int .i64 cn]] w fun e w' => e = .returned (.bool true) ∧ Keeps (fun _ => False) w w' := by
  obtain ⟨a1, c1, rfl, -⟩ := fls_form h1
  obtain ⟨a2, c2, rfl, -⟩ := fls_form h2
  have H1 := hid h1; have H2 := hid h2; have HB := hid hb
  clear h1 h2 hb
  generalize hln : l.length = m at *
  have HLN := hid hln; clear hln
  go_enter Try.func16, Try.ntmps16
  go_upto_region 1 with fail
  generalize hW : World.alloc (World.alloc w _) _ = W1
  have KS : Hd (Keeps (fun _ => False) w W1) := hid (by rw [← hW]; exact (Keeps.alloc (Keeps.alloc (Keeps.refl (fun _ => False) w) _) _))
  have H1' : Hd (Fls K1 W1 (.slice a1 m c1) l) := hid (H1.out.keep KS.out (fun _ _ _ h => h))
  have H2' : Hd (Fls K2 W1 (.slice a2 m c2) l) := hid (H2.out.keep KS.out (fun _ _ _ h => h))
  have BP : Hd (Blk W1 w.heap.size #[.slice a1 m c1, .int .i64 cn] 28) := hid (by rw [← hW]; exact (blk_alloc (blk_new _ _ _) _))
  have BQ : Hd (Blk W1 (w.heap.size + 1) #[.slice a2 m c2, .int .i64 cn] 28) := hid (by rw [← hW]; exact (blk_new' _ _ _ _ (by simp)))
  clear H1 H2
  have H1 := H1'
  clear H1'
  have H2 := H2'
  clear H2'
  have HK : Hd (Keeps (fun _ => False) w W1) := hid KS.out
  have z_W1 : w.heap.size + 2 ≤ W1.heap.size := by rw [← hW]; simp
  clear hW KS
  have o_BP_0 : W1.cell? ⟨w.heap.size, 0, none⟩ = some (.slice a1 m c1) := blk_cell BP.out 0
  have o_BP_1 : W1.cell? ⟨w.heap.size, 1, none⟩ = some (.int .i64 cn) := blk_cell BP.out 1
  have o_BQ_0 : W1.cell? ⟨w.heap.size + 1, 0, none⟩ = some (.slice a2 m c2) := blk_cell BQ.out 0
  have o_BQ_1 : W1.cell? ⟨w.heap.size + 1, 1, none⟩ = some (.int .i64 cn) := blk_cell BQ.out 1
  have q0 : (cn != cn) = false := by simp
  have q1 : ((m : Int) != (m : Int)) = false := by simp
  go_upto_region 4 with fail
  clear o_BP_0 o_BP_1 o_BQ_0 o_BQ_1
  go_loopw [5] (fun i wr => ∃ k : Nat, i = .int .i64 k ∧ k ≤ m ∧ Hd (Keeps (fun _ => False) W1 wr)) (fun i _ => m - (intOf i).toNat)
  case atStart => exact ⟨0, rfl, Nat.zero_le _, hid (Keeps.refl _ _)⟩
  case round =>
    obtain ⟨k, rfl, hkm0, KR⟩ := hrel
    have hk := KR.out
    have H1' : Hd (Fls K1 wr (.slice a1 m c1) l) := hid (H1.out.keep hk (fun _ _ _ h => h))
    have H2' : Hd (Fls K2 wr (.slice a2 m c2) l) := hid (H2.out.keep hk (fun _ _ _ h => h))
    have BP' : Hd (Blk wr w.heap.size #[.slice a1 m c1, .int .i64 cn] 28) := hid (blk_keep BP.out hk (fun h => h))
    have BQ' : Hd (Blk wr (w.heap.size + 1) #[.slice a2 m c2, .int .i64 cn] 28) := hid (blk_keep BQ.out hk (fun h => h))
    clear H1 H2 BP BQ
    have H1 := H1'
    clear H1'
    have H2 := H2'
    clear H2'
    have BP := BP'
    clear BP'
    have BQ := BQ'
    clear BQ'
    have HK' : Hd (Keeps (fun _ => False) w wr) := hid (HK.out.trans hk)
    clear HK
    have HK := HK'
    clear HK'
    have z_wr := hk.size
    clear hk
    by_cases hkm : k < m
    · obtain ⟨x, hx⟩ : ∃ x, l[k]? = some x := ⟨l[k]'(by rw [HLN.out]; exact hkm), List.getElem?_eq_getElem _⟩
      obtain ⟨b1, o1, ea1, hb1, hz1, hc1⟩ := fls_cells H1.out (by rw [HLN.out]; omega)
      subst ea1
      obtain ⟨c10, c11, c12, c13, ad1, cd1, c14, hs1⟩ := hc1 k x hx
      have HS1 := hid hs1; clear hs1 hc1
      obtain ⟨b2, o2, ea2, hb2, hz2, hc2⟩ := fls_cells H2.out (by rw [HLN.out]; omega)
      subst ea2
      obtain ⟨c20, c21, c22, c23, ad2, cd2, c24, hs2⟩ := hc2 k x hx
      have HS2 := hid hs2; clear hs2 hc2
      have HBB := hid (HB.out x (List.mem_of_getElem? hx))
      clear hx
      have HSS : Hd (∀ w', Keeps (fun _ => False) wr w' → (w'.cell? ⟨w.heap.size, 0, none⟩ = some (.slice (some ⟨b1, o1, none⟩) m c1) ∧ w'.cell? ⟨w.heap.size + 1, 0, none⟩ = some (.slice (some ⟨b2, o2, none⟩) m c2) ∧ w'.cell? ⟨b1, o1 + k * 5, none⟩ = some (.int .i64 x.t) ∧ w'.cell? ⟨b1, o1 + k * 5 + 1, none⟩ = some (.int .i64 x.n) ∧ w'.cell? ⟨b1, o1 + k * 5 + 2, none⟩ = some (.int .i64 x.f) ∧ w'.cell? ⟨b1, o1 + k * 5 + 3, none⟩ = some (.int .i64 x.g) ∧ w'.cell? ⟨b1, o1 + k * 5 + 4, none⟩ = some (.slice ad1 x.d.length cd1) ∧ w'.cell? ⟨b2, o2 + k * 5, none⟩ = some (.int .i64 x.t) ∧ w'.cell? ⟨b2, o2 + k * 5 + 1, none⟩ = some (.int .i64 x.n) ∧ w'.cell? ⟨b2, o2 + k * 5 + 2, none⟩ = some (.int .i64 x.f) ∧ w'.cell? ⟨b2, o2 + k * 5 + 3, none⟩ = some (.int .i64 x.g) ∧ w'.cell? ⟨b2, o2 + k * 5 + 4, none⟩ = some (.slice ad2 x.d.length cd2))) := hid (fun w' hk => ⟨blk_cell (blk_keep BP.out hk (fun h => h)) 0, blk_cell (blk_keep BQ.out hk (fun h => h)) 0, keep_cell hk (fun h => h) c10, keep_cell hk (fun h => h) c11, keep_cell hk (fun h => h) c12, keep_cell hk (fun h => h) c13, keep_cell hk (fun h => h) c14, keep_cell hk (fun h => h) c20, keep_cell hk (fun h => h) c21, keep_cell hk (fun h => h) c22, keep_cell hk (fun h => h) c23, keep_cell hk (fun h => h) c24⟩)
      clear c10 c11 c12 c13 c14 c20 c21 c22 c23 c24
      have KC : Hd (Keeps (fun _ => False) wr wr) := hid (Keeps.refl _ _)
      have k1 : (k : Int) < m := by omega
      have k2 : (0 : Int) ≤ k := by omega
      have q2 : (x.t != x.t) = false := by simp
      have q3 : (x.n != x.n) = false := by simp
      have p0 := (HSS.out wr (Keeps.refl _ _)).1
      go_upto_region 6 with fail
      clear p0
      go_region_held (fun w' => w'.cell? ⟨w.heap.size, 0, none⟩ = some (.slice (some ⟨b1, o1, none⟩) m c1) ∧ w'.cell? ⟨w.heap.size + 1, 0, none⟩ = some (.slice (some ⟨b2, o2, none⟩) m c2) ∧ w'.cell? ⟨b1, o1 + k * 5, none⟩ = some (.int .i64 x.t) ∧ w'.cell? ⟨b1, o1 + k * 5 + 1, none⟩ = some (.int .i64 x.n) ∧ w'.cell? ⟨b1, o1 + k * 5 + 2, none⟩ = some (.int .i64 x.f) ∧ w'.cell? ⟨b1, o1 + k * 5 + 3, none⟩ = some (.int .i64 x.g) ∧ w'.cell? ⟨b1, o1 + k * 5 + 4, none⟩ = some (.slice ad1 x.d.length cd1) ∧ w'.cell? ⟨b2, o2 + k * 5, none⟩ = some (.int .i64 x.t) ∧ w'.cell? ⟨b2, o2 + k * 5 + 1, none⟩ = some (.int .i64 x.n) ∧ w'.cell? ⟨b2, o2 + k * 5 + 2, none⟩ = some (.int .i64 x.f) ∧ w'.cell? ⟨b2, o2 + k * 5 + 3, none⟩ = some (.int .i64 x.g) ∧ w'.cell? ⟨b2, o2 + k * 5 + 4, none⟩ = some (.slice ad2 x.d.length cd2)) (exact HSS.out _ (by repeat (first | (with_reducible exact KC.out) | (with_reducible exact Keeps.refl _ _) | (with_reducible apply Keeps.drewN) | (with_reducible apply Keeps.drew) | (with_reducible apply Keeps.alloc) | (refine Keeps.setCell ?_ (.inr (by first | exact Nat.le_refl _ | (simp; done) | (simp; omega) | omega)) _))))
        ((go_at_call 8; refine (SameArr_any (fun _ => True) (fun _ => True) _ _ [x] [x] _ (ars_one (by (repeat (first | (with_reducible apply blk_drewN) | (with_reducible apply blk_drew) | (with_reducible refine blk_new' _ _ _ _ ?_) | (with_reducible apply blk_alloc))); (first | (with_reducible rfl) | (simp; done) | (simp; omega))) (HS1.out.keep (S := fun _ => False) (by repeat (first | (with_reducible exact KC.out) | (with_reducible exact Keeps.refl _ _) | (with_reducible apply Keeps.drewN) | (with_reducible apply Keeps.drew) | (with_reducible apply Keeps.alloc))) (fun _ _ _ h => h))) (ars_one (by (repeat (first | (with_reducible apply blk_drewN) | (with_reducible apply blk_drew) | (with_reducible refine blk_new' _ _ _ _ ?_) | (with_reducible apply blk_alloc))); (first | (with_reducible rfl) | (simp; done) | (simp; omega))) (HS2.out.keep (S := fun _ => False) (by repeat (first | (with_reducible exact KC.out) | (with_reducible exact Keeps.refl _ _) | (with_reducible apply Keeps.drewN) | (with_reducible apply Keeps.drew) | (with_reducible apply Keeps.alloc))) (fun _ _ _ h => h))) (EqA.refl _) (by simp) (by intro y hy; simp at hy; subst hy; exact HBB.out)).mono ?_; rintro e wy ⟨rfl, hd⟩; have KC2 : Hd (Keeps (fun _ => False) wr wy) := hid (Keeps.trans (S := fun _ => False) (by repeat (first | (with_reducible exact KC.out) | (with_reducible exact Keeps.refl _ _) | (with_reducible apply Keeps.drewN) | (with_reducible apply Keeps.drew) | (with_reducible apply Keeps.alloc))) (drawn_keeps _ hd)); replace KC := KC2; clear KC2 hd))
      all_goals
        go_wp2
        go_roundw
        case rel => exact ⟨k + 1, by go_num, by omega, hid (KR.out.trans (S := fun _ => False) (by repeat (first | (with_reducible exact KC.out) | (with_reducible exact Keeps.refl _ _) | (with_reducible apply Keeps.drewN) | (with_reducible apply Keeps.drew) | (with_reducible apply Keeps.alloc))))⟩
        case measure => simp [intOf]; omega
    · have hkm2 : k = m := by omega
      have k0 : ¬ ((k : Int) < m) := by omega
      clear hkm hkm2
      have o_BP_0 : wr.cell? ⟨w.heap.size, 0, none⟩ = some (.slice a1 m c1) := blk_cell BP.out 0
      go_wp2
      go_ret
      exact ⟨rfl, HK.out⟩
/-- some truth value -/
def SomeB (w : World) (r : Ending) (w' : World) : Prop := ∃ b, r = .returned (.bool b) ∧ Keeps (fun _ => False) w w'
def SomeI (w : World) (r : Ending) (w' : World) : Prop := ∃ n : Int, r = .returned (.int .i64 n) ∧ Keeps (fun _ => False) w w'
def SomeB0 (w : World) (r : Ending) (w' : World) : Prop := ∃ b, r = .returned (.bool b) ∧ w = w'
set_option maxRecDepth 100000 in set_option maxHeartbeats 400000 in
theorem in_any (n lo hi : Int) (w : World) : Calls Try.prog 38 #[.int .i64 n, .int .i64 lo, .int .i64 hi] w fun e w' => SomeB0 w e w' := by
  go_enter Try.func38, Try.ntmps38
  go_wp2
  all_goals (go_ret; exact ⟨_, rfl, rfl⟩)
set_option maxRecDepth 100000 in set_option maxHeartbeats 1000000 in
theorem Formed_any (x : Win) (w : World) : Calls Try.prog 31 #[.agg #[.int .i64 x.k, .int .i64 x.a, .int .i64 x.b, .int .i64 x.f, .int .i64 x.u, .int .i64 x.r]] w fun e w' => SomeB w e w' := by
  go_enter Try.func31, Try.ntmps31
  go_wp2_with (go_at_call 38; refine (in_any _ _ _ _).mono ?_; rintro e w1 ⟨b, rfl, rfl⟩)
  all_goals (go_ret; exact ⟨_, rfl, keeps_alloc _ _ _⟩)
def befB (x y : Win) : Bool := if x.f = y.f then (if x.k = y.k then (if x.a = y.a then decide (x.b < y.b) else decide (x.a < y.a)) else decide (x.k < y.k)) else decide (x.f < y.f)
set_option maxRecDepth 100000 in set_option maxHeartbeats 1000000 in
theorem before_any (x y : Win) (w : World) : Calls Try.prog 32 #[.agg #[.int .i64 x.k, .int .i64 x.a, .int .i64 x.b, .int .i64 x.f, .int .i64 x.u, .int .i64 x.r], .agg #[.int .i64 y.k, .int .i64 y.a, .int .i64 y.b, .int .i64 y.f, .int .i64 y.u, .int .i64 y.r]] w fun e w' => e = .returned (.bool (befB x y)) ∧ Keeps (fun _ => False) w w' := by
  obtain ⟨R, hR⟩ : ∃ R, befB x y = R := ⟨_, rfl⟩
  rw [hR]
  have HR := hid hR; clear hR
  have HE : Hd (befB x y = if x.f = y.f then (if x.k = y.k then (if x.a = y.a then decide (x.b < y.b) else decide (x.a < y.a)) else decide (x.k < y.k)) else decide (x.f < y.f)) := hid rfl
  go_enter Try.func32, Try.ntmps32
  go_upto_region 1 with fail
  generalize hW : World.alloc (World.alloc w _) _ = W1
  have KS : Hd (Keeps (fun _ => False) w W1) := hid (by rw [← hW]; exact (Keeps.alloc (Keeps.alloc (Keeps.refl (fun _ => False) w) _) _))
  have BP : Hd (Blk W1 w.heap.size #[.int .i64 x.k, .int .i64 x.a, .int .i64 x.b, .int .i64 x.f, .int .i64 x.u, .int .i64 x.r] 54) := hid (by rw [← hW]; exact (blk_alloc (blk_new _ _ _) _))
  have BQ : Hd (Blk W1 (w.heap.size + 1) #[.int .i64 y.k, .int .i64 y.a, .int .i64 y.b, .int .i64 y.f, .int .i64 y.u, .int .i64 y.r] 54) := hid (by rw [← hW]; exact (blk_new' _ _ _ _ (by simp)))
  have HK : Hd (Keeps (fun _ => False) w W1) := hid KS.out
  have z_W1 : w.heap.size + 2 ≤ W1.heap.size := by rw [← hW]; simp
  clear hW KS
  have o_BP_0 : W1.cell? ⟨w.heap.size, 0, none⟩ = some (.int .i64 x.k) := blk_cell BP.out 0
  have o_BP_1 : W1.cell? ⟨w.heap.size, 1, none⟩ = some (.int .i64 x.a) := blk_cell BP.out 1
  have o_BP_2 : W1.cell? ⟨w.heap.size, 2, none⟩ = some (.int .i64 x.b) := blk_cell BP.out 2
  have o_BP_3 : W1.cell? ⟨w.heap.size, 3, none⟩ = some (.int .i64 x.f) := blk_cell BP.out 3
  have o_BP_4 : W1.cell? ⟨w.heap.size, 4, none⟩ = some (.int .i64 x.u) := blk_cell BP.out 4
  have o_BP_5 : W1.cell? ⟨w.heap.size, 5, none⟩ = some (.int .i64 x.r) := blk_cell BP.out 5
  have o_BQ_0 : W1.cell? ⟨w.heap.size + 1, 0, none⟩ = some (.int .i64 y.k) := blk_cell BQ.out 0
  have o_BQ_1 : W1.cell? ⟨w.heap.size + 1, 1, none⟩ = some (.int .i64 y.a) := blk_cell BQ.out 1
  have o_BQ_2 : W1.cell? ⟨w.heap.size + 1, 2, none⟩ = some (.int .i64 y.b) := blk_cell BQ.out 2
  have o_BQ_3 : W1.cell? ⟨w.heap.size + 1, 3, none⟩ = some (.int .i64 y.f) := blk_cell BQ.out 3
  have o_BQ_4 : W1.cell? ⟨w.heap.size + 1, 4, none⟩ = some (.int .i64 y.u) := blk_cell BQ.out 4
  have o_BQ_5 : W1.cell? ⟨w.heap.size + 1, 5, none⟩ = some (.int .i64 y.r) := blk_cell BQ.out 5
  by_cases h1 : x.f = y.f
  · have d1 : (x.f != y.f) = false := by simp [h1]
    by_cases h2 : x.k = y.k
    · have d2 : (x.k != y.k) = false := by simp [h2]
      by_cases h3 : x.a = y.a
      · have d3 : (x.a != y.a) = false := by simp [h3]
        have HF : Hd (R = decide (x.b < y.b)) := hid (by rw [← HR.out, HE.out, if_pos h1, if_pos h2, if_pos h3])
        clear h1 h2 h3
        go_wp2
        go_ret
        exact ⟨ret_bool HF.out.symm, HK.out⟩
      · have d3 : (x.a != y.a) = true := by simp [h3]
        have HF : Hd (R = decide (x.a < y.a)) := hid (by rw [← HR.out, HE.out, if_pos h1, if_pos h2, if_neg h3])
        clear h1 h2 h3
        go_wp2
        go_ret
        exact ⟨ret_bool HF.out.symm, HK.out⟩
    · have d2 : (x.k != y.k) = true := by simp [h2]
      have HF : Hd (R = decide (x.k < y.k)) := hid (by rw [← HR.out, HE.out, if_pos h1, if_neg h2])
      clear h1 h2
      go_wp2
      go_ret
      exact ⟨ret_bool HF.out.symm, HK.out⟩
  · have d1 : (x.f != y.f) = true := by simp [h1]
    have HF : Hd (R = decide (x.f < y.f)) := hid (by rw [← HR.out, HE.out, if_neg h1])
    clear h1
    go_wp2
    go_ret
    exact ⟨ret_bool HF.out.symm, HK.out⟩
def meetB (x y : Win) : Bool := x.key y.k y.a y.b && (decide (x.f < y.u) && decide (y.f < x.u))
set_option maxRecDepth 100000 in set_option maxHeartbeats 1000000 in
theorem meet_any (x y : Win) (w : World) : Calls Try.prog 33 #[.agg #[.int .i64 x.k, .int .i64 x.a, .int .i64 x.b, .int .i64 x.f, .int .i64 x.u, .int .i64 x.r], .agg #[.int .i64 y.k, .int .i64 y.a, .int .i64 y.b, .int .i64 y.f, .int .i64 y.u, .int .i64 y.r]] w fun e w' => e = .returned (.bool (meetB x y)) ∧ Keeps (fun _ => False) w w' := by
  have HE : Hd (meetB x y = (x.key y.k y.a y.b && (decide (x.f < y.u) && decide (y.f < x.u)))) := hid rfl
  rw [HE.out]
  obtain ⟨q, hq⟩ : ∃ q, x.key y.k y.a y.b = q := ⟨_, rfl⟩
  rw [hq]
  have HQ := hid hq; clear hq HE
  obtain ⟨c1, hc1⟩ : ∃ c, decide (x.f < y.u) = c := ⟨_, rfl⟩
  rw [hc1]
  have HC1 := hid hc1; clear hc1
  go_enter Try.func33, Try.ntmps33
  go_upto_region 1 with fail
  generalize hW : World.alloc (World.alloc w _) _ = W1
  have KS : Hd (Keeps (fun _ => False) w W1) := hid (by rw [← hW]; exact (Keeps.alloc (Keeps.alloc (Keeps.refl (fun _ => False) w) _) _))
  have BP : Hd (Blk W1 w.heap.size #[.int .i64 x.k, .int .i64 x.a, .int .i64 x.b, .int .i64 x.f, .int .i64 x.u, .int .i64 x.r] 54) := hid (by rw [← hW]; exact (blk_alloc (blk_new _ _ _) _))
  have BQ : Hd (Blk W1 (w.heap.size + 1) #[.int .i64 y.k, .int .i64 y.a, .int .i64 y.b, .int .i64 y.f, .int .i64 y.u, .int .i64 y.r] 54) := hid (by rw [← hW]; exact (blk_new' _ _ _ _ (by simp)))
  have HK : Hd (Keeps (fun _ => False) w W1) := hid KS.out
  have z_W1 : w.heap.size + 2 ≤ W1.heap.size := by rw [← hW]; simp
  clear hW KS
  have o_BP_0 : W1.cell? ⟨w.heap.size, 0, none⟩ = some (.int .i64 x.k) := blk_cell BP.out 0
  have o_BP_1 : W1.cell? ⟨w.heap.size, 1, none⟩ = some (.int .i64 x.a) := blk_cell BP.out 1
  have o_BP_2 : W1.cell? ⟨w.heap.size, 2, none⟩ = some (.int .i64 x.b) := blk_cell BP.out 2
  have o_BP_3 : W1.cell? ⟨w.heap.size, 3, none⟩ = some (.int .i64 x.f) := blk_cell BP.out 3
  have o_BP_4 : W1.cell? ⟨w.heap.size, 4, none⟩ = some (.int .i64 x.u) := blk_cell BP.out 4
  have o_BP_5 : W1.cell? ⟨w.heap.size, 5, none⟩ = some (.int .i64 x.r) := blk_cell BP.out 5
  have o_BQ_0 : W1.cell? ⟨w.heap.size + 1, 0, none⟩ = some (.int .i64 y.k) := blk_cell BQ.out 0
  have o_BQ_1 : W1.cell? ⟨w.heap.size + 1, 1, none⟩ = some (.int .i64 y.a) := blk_cell BQ.out 1
  have o_BQ_2 : W1.cell? ⟨w.heap.size + 1, 2, none⟩ = some (.int .i64 y.b) := blk_cell BQ.out 2
  have o_BQ_3 : W1.cell? ⟨w.heap.size + 1, 3, none⟩ = some (.int .i64 y.f) := blk_cell BQ.out 3
  have o_BQ_4 : W1.cell? ⟨w.heap.size + 1, 4, none⟩ = some (.int .i64 y.u) := blk_cell BQ.out 4
  have o_BQ_5 : W1.cell? ⟨w.heap.size + 1, 5, none⟩ = some (.int .i64 y.r) := blk_cell BQ.out 5
  go_wp2_with fail
  refine (Key_any x y.k y.a y.b _).mono ?_
  rw [HQ.out]
  rintro e W2 ⟨rfl, hk⟩
  clear o_BP_0 o_BP_1 o_BP_2 o_BP_3 o_BP_4 o_BP_5 o_BQ_0 o_BQ_1 o_BQ_2 o_BQ_3 o_BQ_4 o_BQ_5
  have BP' : Hd (Blk W2 w.heap.size #[.int .i64 x.k, .int .i64 x.a, .int .i64 x.b, .int .i64 x.f, .int .i64 x.u, .int .i64 x.r] 54) := hid (blk_keep BP.out hk (fun h => h))
  have BQ' : Hd (Blk W2 (w.heap.size + 1) #[.int .i64 y.k, .int .i64 y.a, .int .i64 y.b, .int .i64 y.f, .int .i64 y.u, .int .i64 y.r] 54) := hid (blk_keep BQ.out hk (fun h => h))
  clear BP BQ
  have BP := BP'
  clear BP'
  have BQ := BQ'
  clear BQ'
  have HK' : Hd (Keeps (fun _ => False) w W2) := hid (HK.out.trans hk)
  clear HK
  have HK := HK'
  clear HK'
  have z_W2 := hk.size
  clear hk
  have o_BP_0 : W2.cell? ⟨w.heap.size, 0, none⟩ = some (.int .i64 x.k) := blk_cell BP.out 0
  have o_BP_1 : W2.cell? ⟨w.heap.size, 1, none⟩ = some (.int .i64 x.a) := blk_cell BP.out 1
  have o_BP_2 : W2.cell? ⟨w.heap.size, 2, none⟩ = some (.int .i64 x.b) := blk_cell BP.out 2
  have o_BP_3 : W2.cell? ⟨w.heap.size, 3, none⟩ = some (.int .i64 x.f) := blk_cell BP.out 3
  have o_BP_4 : W2.cell? ⟨w.heap.size, 4, none⟩ = some (.int .i64 x.u) := blk_cell BP.out 4
  have o_BP_5 : W2.cell? ⟨w.heap.size, 5, none⟩ = some (.int .i64 x.r) := blk_cell BP.out 5
  have o_BQ_0 : W2.cell? ⟨w.heap.size + 1, 0, none⟩ = some (.int .i64 y.k) := blk_cell BQ.out 0
  have o_BQ_1 : W2.cell? ⟨w.heap.size + 1, 1, none⟩ = some (.int .i64 y.a) := blk_cell BQ.out 1
  have o_BQ_2 : W2.cell? ⟨w.heap.size + 1, 2, none⟩ = some (.int .i64 y.b) := blk_cell BQ.out 2
  have o_BQ_3 : W2.cell? ⟨w.heap.size + 1, 3, none⟩ = some (.int .i64 y.f) := blk_cell BQ.out 3
  have o_BQ_4 : W2.cell? ⟨w.heap.size + 1, 4, none⟩ = some (.int .i64 y.u) := blk_cell BQ.out 4
  have o_BQ_5 : W2.cell? ⟨w.heap.size + 1, 5, none⟩ = some (.int .i64 y.r) := blk_cell BQ.out 5
  cases q
  · go_wp2
    go_ret
    exact ⟨rfl, HK.out⟩
  · cases c1
    · have d1 := HC1.out
      go_wp2
      go_ret
      exact ⟨by simp, HK.out⟩
    · have d1 := HC1.out
      go_wp2
      go_ret
      exact ⟨by simp, HK.out⟩
end Go.Proofs.Ytjapmpolagblaaa
