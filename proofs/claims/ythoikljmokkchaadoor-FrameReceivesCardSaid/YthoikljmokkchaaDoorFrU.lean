/- Frame: Around, SameBytes, SameBodies, SameFrame of the references. -/
import Derived.Test.YthoikljmokkchaaDoorFrBase
import Derived.Test.YthoikljmokkchaaDoorCrcAll
import Derived.StillTailTactics
namespace Go.Proofs.YthoikljmokkchaaDoor
open Go.RowKit
attribute [local go_sem ↓] Go.wp_at_zero Go.wp_at_succ
def around (n most : Int) : Int := (if n < 0 then -(n + 1) else n) % most
theorem around_b (n : Int) {most : Int} (h : 1 ≤ most) : 0 ≤ around n most ∧ around n most < most := by
  unfold around; exact ⟨Int.emod_nonneg _ (by omega), Int.emod_lt_of_pos _ (by omega)⟩
set_option maxRecDepth 100000 in set_option maxHeartbeats 400000 in
theorem Around_any (n m : Int) (w : World) (h0 : -9223372036854775808 ≤ n) (h1 : n ≤ 9223372036854775807) (h2 : 1 ≤ m) (h3 : m ≤ 1000000000000000) : Calls Tryd.prog 22 #[.int .i64 n, .int .i64 m] w fun e w' => e = .returned (.int .i64 (around n m)) ∧ w = w' := by
  have hne : (m == 0) = false := by simp; omega
  have H0 := hid h0; have H1 := hid h1
  by_cases hn : n < 0
  · have HE : Hd (-((n + 1).tmod m) = around n m) := hid (by unfold around; rw [if_pos hn, ← Int.neg_tmod, Int.tmod_eq_emod_of_nonneg (by omega)])
    go_enter Tryd.func22, Tryd.ntmps22
    go_wp2
    go_ret
    exact ⟨ret_int HE.out, rfl⟩
  · have HE : Hd (n % m = around n m) := hid (by unfold around; rw [if_neg hn])
    go_enter Tryd.func22, Tryd.ntmps22
    go_wp2
    go_ret
    exact ⟨ret_int HE.out, rfl⟩
set_option maxRecDepth 100000 in set_option maxHeartbeats 400000 in
theorem SameBytes_any (K1 K2 : Nat → Prop) (v1 v2 : Value) (xs ys : List Nat) (w : World) (h1 : Sl K1 w v1 (u8s xs)) (h2 : Sl K2 w v2 (u8s ys)) (hx : ∀ c ∈ xs, c < 256) (hy : ∀ c ∈ ys, c < 256) :
    Calls Tryd.prog 13 #[v1, v2] w fun e w' => e = .returned (.bool (decide (xs = ys))) ∧ w = w' := by
  have e1 := Cr.conv_sl h1 hx; have e2 := Cr.conv_sl h2 hy
  have HQ : Hd (((Cr.str xs).toList == (Cr.str ys).toList) = decide (xs = ys)) := hid (by
    rw [Bool.eq_iff_iff, beq_iff_eq, decide_eq_true_iff]
    exact ⟨fun h => Cr.str_inj hx hy (Cr.ba_inj h), fun h => by rw [h]⟩)
  generalize Cr.str xs = s at *
  generalize Cr.str ys = t at *
  clear h1 h2 hx hy
  go_enter Tryd.func13, Tryd.ntmps13
  go_wp2
  go_ret
  exact ⟨ret_bool HQ.out, rfl⟩
theorem eq_getElem {α : Type} (xs ys : List α) (n : Nat) (h1 : xs.length = n) (h2 : ys.length = n) (h : ∀ j, j < n → xs[j]? = ys[j]?) : xs = ys := by
  apply List.ext_getElem?
  intro i
  rcases Nat.lt_or_ge i n with h3 | h3
  · exact h i h3
  · rw [List.getElem?_eq_none (by omega), List.getElem?_eq_none (by omega)]
set_option maxRecDepth 100000 in
set_option maxHeartbeats 1000000 in
theorem SameBodies_any (K1 K2 : Nat → Prop) (v1 v2 : Value) (xs ys : List (List Nat)) (w : World) (h1 : Bds K1 w v1 xs) (h2 : Bds K2 w v2 ys) (hx : ∀ x ∈ xs, ∀ c ∈ x, c < 256) (hy : ∀ x ∈ ys, ∀ c ∈ x, c < 256) (hm : xs.length ≤ 1000000) :
    Calls Tryd.prog 27 #[v1, v2] w fun e w' => e = .returned (.bool (decide (xs = ys))) ∧ Keeps (fun _ => False) w w' := by
  have H1 := hid h1; have H2 := hid h2; have HX := hid hx; have HY := hid hy
  obtain ⟨a1, c1, rfl, g1, g2⟩ := h1.form
  obtain ⟨a2, c2, rfl, g3, g4⟩ := h2.form
  obtain ⟨n, hn⟩ : ∃ n, xs.length = n := ⟨_, rfl⟩
  obtain ⟨m, hmm⟩ : ∃ m, ys.length = m := ⟨_, rfl⟩
  have HN := hid hn; have HM := hid hmm
  rw [hn] at H1 hm g1 ⊢
  rw [hmm] at H2 g3 ⊢
  unfold maxLen at g2 g4
  clear h1 h2 hx hy hn hmm
  by_cases hne : n = m
  · subst hne
    obtain ⟨Q, hQ⟩ : ∃ Q, decide (xs = ys) = Q := ⟨_, rfl⟩
    have HQ := hid hQ
    rw [hQ]
    clear hQ
    go_enter Tryd.func27, Tryd.ntmps27
    go_wp2_with fail
    go_loopw [5] (fun iv wr => ∃ k : Nat, iv = .int .i64 (k : Int) ∧ k ≤ n ∧ Hd (∀ j, j < k → xs[j]? = ys[j]?) ∧ Hd (Keeps (fun _ => False) w wr)) (fun iv _ => n - (intOf iv).toNat)
    case atStart => exact ⟨0, rfl, Nat.zero_le _, hid (fun j hj => by omega), hid (Keeps.refl _ _)⟩
    case round =>
      obtain ⟨V, rfl⟩ : ∃ V, V = wr := ⟨_, rfl⟩
      obtain ⟨k, rfl, hk, HA, HK⟩ := hrel
      by_cases hlt : k < n
      · have q1 : (k : Int) < n := by omega
        have q2 : (0 : Int) ≤ k := by omega
        obtain ⟨b1, o1, rfl, -, -, hc1⟩ := bds_cells H1.out (by rw [HN.out]; omega)
        obtain ⟨b2, o2, rfl, -, -, hc2⟩ := bds_cells H2.out (by rw [HM.out]; omega)
        obtain ⟨x, hx⟩ : ∃ x, xs[k]? = some x := ⟨xs[k]'(by rw [HN.out]; omega), List.getElem?_eq_getElem _⟩
        obtain ⟨y, hy⟩ : ∃ y, ys[k]? = some y := ⟨ys[k]'(by rw [HM.out]; omega), List.getElem?_eq_getElem _⟩
        obtain ⟨ad, cd, e1, s1⟩ := hc1 k x hx
        obtain ⟨ae, ce, e2, s2⟩ := hc2 k y hy
        have HXK := hid hx; have HYK := hid hy
        have S1 := hid (s1.keep HK.out (fun _ _ _ h => h)); have S2 := hid (s2.keep HK.out (fun _ _ _ h => h))
        have x1 : ∀ z : Ext V, z.w.cell? ⟨b1, o1 + k, none⟩ = some (.slice ad x.length cd) := ext_cell (keep_cell HK.out (fun h => h) e1)
        have x2 : ∀ z : Ext V, z.w.cell? ⟨b2, o2 + k, none⟩ = some (.slice ae y.length ce) := ext_cell (keep_cell HK.out (fun h => h) e2)
        clear hc1 hc2 s1 s2 hx hy e1 e2
        obtain ⟨q, hq⟩ : ∃ q, decide (x = y) = q := ⟨_, rfl⟩
        have HQQ := hid hq
        have HC : Hd (∀ z : Ext V, Calls Tryd.prog 13 #[.slice ad x.length cd, .slice ae y.length ce] z.w fun e w' => e = .returned (.bool q) ∧ z.w = w') := hid (fun z => by have h := SameBytes_any _ _ _ _ x y z.w (S1.out.keep z.k (fun _ _ _ h => h)) (S2.out.keep z.k (fun _ _ _ h => h)) (HX.out x (List.mem_of_getElem? HXK.out)) (HY.out y (List.mem_of_getElem? HYK.out)); rw [hq] at h; exact h)
        clear hq
        go_upto_region 6 with fail
        refine wp_region_ext (by kernel_rfl) (by kernel_rfl) ?_
        repeat (go_big_quiet_step (first | (go_at_call 13; exact ext_same (HC.out _))))
        refine wpQuiet_nil ?_
        rintro _ ⟨z, rfl⟩
        clear x1 x2 HC
        have hk2 := hid (HK.out.trans z.k)
        generalize z.w = V2 at *
        clear z
        cases q
        · have hne : xs ≠ ys := fun h => by
            have := HXK.out; rw [h, HYK.out] at this; injection this with this
            have h2 := HQQ.out; rw [this] at h2; simp at h2
          have HF : Hd (Q = false) := hid (by rw [← HQ.out]; exact decide_eq_false hne)
          clear hne
          go_wp2
          go_ret
          exact ⟨by rw [HF.out]; rfl, hk2.out⟩
        · have hxy : Hd (x = y) := hid (of_decide_eq_true HQQ.out)
          go_wp2
          go_roundw
          case rel =>
            refine ⟨k + 1, by first | rfl | go_num, by omega, hid (fun j hj => ?_), hk2⟩
            rcases Nat.lt_or_ge j k with h | h
            · exact HA.out j h
            · obtain rfl : j = k := by omega
              rw [HXK.out, HYK.out, hxy.out]
          case measure => simp [intOf]; omega
      · have hkn : k = n := by omega
        have q1 : ¬ ((k : Int) < n) := by omega
        have HT : Hd (Q = true) := hid (by rw [← HQ.out]; exact decide_eq_true (eq_getElem xs ys n HN.out HM.out (fun j hj => HA.out j (by omega))))
        clear hlt hkn
        go_wp2
        go_ret
        exact ⟨by rw [HT.out]; rfl, HK.out⟩
  · have HF : Hd (decide (xs = ys) = false) := hid (decide_eq_false (fun h => by have := HN.out; rw [h, HM.out] at this; omega))
    have q1 : ((n : Int) == m) = false := by simp; omega
    have q2 : ((n : Int) != m) = true := by simp; omega
    have q3 : (n == m) = false := by simp; omega
    have q4 : (n != m) = true := by simp; omega
    go_enter Tryd.func27, Tryd.ntmps27
    go_wp2
    go_ret
    exact ⟨by rw [HF.out]; rfl, Keeps.refl _ _⟩
set_option maxRecDepth 100000 in set_option maxHeartbeats 400000 in
theorem SameInts_any (K1 K2 : Nat → Prop) (v1 v2 : Value) (xs ys : List Int) (w : World) (h1 : Sl K1 w v1 (i64s xs)) (h2 : Sl K2 w v2 (i64s ys)) (hm : xs.length ≤ 1000000000) :
    Calls Tryd.prog 47 #[v1, v2] w fun e w' => e = .returned (.bool (decide (xs = ys))) ∧ Drawn w w' := by
  obtain ⟨a1, c1, rfl, hc1, hc1m, h1⟩ := h1.ints
  obtain ⟨a2, c2, rfl, hc2, hc2m, h2⟩ := h2.ints
  generalize hl1 : xs.length = n at *
  generalize hl2 : ys.length = m at *
  have C1 := hid h1; have C2 := hid h2; clear h1 h2
  have H1 := hid hl1; have H2 := hid hl2; clear hl1 hl2
  by_cases hnm : n = m
  · subst hnm
    go_enter Tryd.func47, Tryd.ntmps47
    go_wp2
    go_loopw [5] (fun i w' => ∃ k : Nat, k ≤ n ∧ i = .int .i64 k ∧ Hd (∀ j, j < k → xs.getD j 0 = ys.getD j 0) ∧ Drawn w w') (fun i _ => n - (intOf i).toNat)
    case atStart => exact ⟨0, by omega, rfl, hid (fun j hj => by omega), Drawn.refl _⟩
    case round =>
      obtain ⟨k, hk, rfl, hag, hdr⟩ := hrel
      by_cases hlt : k < n
      · obtain ⟨b1, o1, rfl, _, _, d1⟩ := C1.out (by omega)
        obtain ⟨b2, o2, rfl, _, _, d2⟩ := C2.out (by omega)
        have e1 := hdr.cell (d1 k hlt); clear d1
        have e2 := hdr.cell (d2 k hlt); clear d2
        generalize hx : xs.getD k 0 = x at *
        generalize hy : ys.getD k 0 = y at *
        have HX := hid hx; have HY := hid hy; clear hx hy
        by_cases he : x = y
        · subst he
          have HA := hid (agree_step 0 xs ys k hag.out (HX.out.trans HY.out.symm)); clear hag
          have hk0 : (0 : Int) ≤ (k : Int) := by omega
          have hk1 : (k : Int) < n := by omega
          go_wp2
          go_quiet (fail)
          go_wp2
          go_roundw
          case rel => exact ⟨k + 1, by omega, by go_num, HA, drawn_n hdr _⟩
          case measure => simp [intOf]; omega
        · have hne : (x != y) = true := by simp; exact he
          have hk0 : (0 : Int) ≤ (k : Int) := by omega
          have hk1 : (k : Int) < n := by omega
          have fin : decide (xs = ys) = false := by
            simp; rintro rfl; exact he (HX.out.symm.trans HY.out)
          have FIN := hid fin; clear fin he
          go_wp2
          go_quiet (fail)
          go_wp2
          go_ret
          exact ⟨ret_bool FIN.out.symm, drawn_n hdr _⟩
      · have : k = n := by omega
        subst this
        have fin : decide (xs = ys) = true := by
          simp; exact agree_all 0 xs ys k H1.out H2.out hag.out
        have FIN := hid fin; clear fin hag
        go_wp2
        go_ret
        exact ⟨ret_bool FIN.out.symm, hdr⟩
  · have hne : ((n : Int) != (m : Int)) = true := by simp; omega
    have fin : decide (xs = ys) = false := by
      simp; rintro rfl; exact hnm (H1.out.symm.trans H2.out)
    have FIN := hid fin; clear fin
    go_enter Tryd.func47, Tryd.ntmps47
    go_wp2
    go_ret
    exact ⟨ret_bool FIN.out.symm, Drawn.refl _⟩
end Go.Proofs.YthoikljmokkchaaDoor
