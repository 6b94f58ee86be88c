/- Two slices are compared (package perigeeref02). -/
import Derived.Test.YtlebocjcelbbpaaProg
import Derived.Test.YtlebocjcelbbpaaBase
namespace Go.Proofs.Ytlebocjcelbbpaa
open Go.RowKit
set_option maxRecDepth 100000 in set_option maxHeartbeats 400000 in
theorem SameBytes_any (K1 K2 : Nat → Prop) (v1 v2 : Value) (xs ys : List Nat) (w : World) (h1 : Sl K1 w v1 (u8s xs)) (h2 : Sl K2 w v2 (u8s ys)) (hm : xs.length ≤ 1000000000) :
    Calls Try.prog 22 #[v1, v2] w fun e w' => e = .returned (.bool (decide (xs = ys))) ∧ Drawn w w' := by
  obtain ⟨a1, c1, rfl, hc1, hc1m, h1⟩ := h1.bytes
  obtain ⟨a2, c2, rfl, hc2, hc2m, h2⟩ := h2.bytes
  generalize hl1 : xs.length = n at *
  generalize hl2 : ys.length = m at *
  have C1 := hid h1; have C2 := hid h2; clear h1 h2
  have H1 := hid hl1; have H2 := hid hl2; clear hl1 hl2
  by_cases hnm : n = m
  · subst hnm
    go_enter Try.func22, Try.ntmps22
    go_wp2
    go_loopw [5] (fun i w' => ∃ k : Nat, k ≤ n ∧ i = .int .i64 k ∧ Hd (∀ j, j < k → xs.getD j 0 = ys.getD j 0) ∧ Drawn w w') (fun i _ => n - (intOf i).toNat)
    case atStart => exact ⟨0, by omega, rfl, hid (fun j hj => by omega), Drawn.refl _⟩
    case round =>
      obtain ⟨k, hk, rfl, hag, hdr⟩ := hrel
      by_cases hlt : k < n
      · obtain ⟨b1, o1, rfl, _, _, d1⟩ := C1.out (by omega)
        obtain ⟨b2, o2, rfl, _, _, d2⟩ := C2.out (by omega)
        have e1 := hdr.cell (d1 k hlt); clear d1
        have e2 := hdr.cell (d2 k hlt); clear d2
        generalize hx : xs.getD k 0 = x at *
        generalize hy : ys.getD k 0 = y at *
        have HX := hid hx; have HY := hid hy; clear hx hy
        by_cases he : x = y
        · subst he
          have HA := hid (agree_step 0 xs ys k hag.out (HX.out.trans HY.out.symm)); clear hag
          have hk0 : (0 : Int) ≤ (k : Int) := by omega
          have hk1 : (k : Int) < n := by omega
          go_wp2
          go_quiet (fail)
          go_wp2
          go_roundw
          case rel => exact ⟨k + 1, by omega, by go_num, HA, drawn_n hdr _⟩
          case measure => simp [intOf]; omega
        · have hne : ((x : Int) != (y : Int)) = true := by simp; omega
          have hk0 : (0 : Int) ≤ (k : Int) := by omega
          have hk1 : (k : Int) < n := by omega
          have fin : decide (xs = ys) = false := by
            simp; rintro rfl; exact he (HX.out.symm.trans HY.out)
          have FIN := hid fin; clear fin he
          go_wp2
          go_quiet (fail)
          go_wp2
          go_ret
          exact ⟨ret_bool FIN.out.symm, drawn_n hdr _⟩
      · have : k = n := by omega
        subst this
        have fin : decide (xs = ys) = true := by
          simp; exact agree_all 0 xs ys k H1.out H2.out hag.out
        have FIN := hid fin; clear fin hag
        go_wp2
        go_ret
        exact ⟨ret_bool FIN.out.symm, hdr⟩
  · have hne : ((n : Int) != (m : Int)) = true := by simp; omega
    have fin : decide (xs = ys) = false := by
      simp; rintro rfl; exact hnm (H1.out.symm.trans H2.out)
    have FIN := hid fin; clear fin
    go_enter Try.func22, Try.ntmps22
    go_wp2
    go_ret
    exact ⟨ret_bool FIN.out.symm, Drawn.refl _⟩

set_option maxRecDepth 100000 in set_option maxHeartbeats 400000 in
theorem SameInts_any (K1 K2 : Nat → Prop) (v1 v2 : Value) (xs ys : List Int) (w : World) (h1 : Sl K1 w v1 (i64s xs)) (h2 : Sl K2 w v2 (i64s ys)) (hm : xs.length ≤ 1000000000) :
    Calls Try.prog 30 #[v1, v2] w fun e w' => e = .returned (.bool (decide (xs = ys))) ∧ Drawn w w' := by
  obtain ⟨a1, c1, rfl, hc1, hc1m, h1⟩ := h1.ints
  obtain ⟨a2, c2, rfl, hc2, hc2m, h2⟩ := h2.ints
  generalize hl1 : xs.length = n at *
  generalize hl2 : ys.length = m at *
  have C1 := hid h1; have C2 := hid h2; clear h1 h2
  have H1 := hid hl1; have H2 := hid hl2; clear hl1 hl2
  by_cases hnm : n = m
  · subst hnm
    go_enter Try.func30, Try.ntmps30
    go_wp2
    go_loopw [5] (fun i w' => ∃ k : Nat, k ≤ n ∧ i = .int .i64 k ∧ Hd (∀ j, j < k → xs.getD j 0 = ys.getD j 0) ∧ Drawn w w') (fun i _ => n - (intOf i).toNat)
    case atStart => exact ⟨0, by omega, rfl, hid (fun j hj => by omega), Drawn.refl _⟩
    case round =>
      obtain ⟨k, hk, rfl, hag, hdr⟩ := hrel
      by_cases hlt : k < n
      · obtain ⟨b1, o1, rfl, _, _, d1⟩ := C1.out (by omega)
        obtain ⟨b2, o2, rfl, _, _, d2⟩ := C2.out (by omega)
        have e1 := hdr.cell (d1 k hlt); clear d1
        have e2 := hdr.cell (d2 k hlt); clear d2
        generalize hx : xs.getD k 0 = x at *
        generalize hy : ys.getD k 0 = y at *
        have HX := hid hx; have HY := hid hy; clear hx hy
        by_cases he : x = y
        · subst he
          have HA := hid (agree_step 0 xs ys k hag.out (HX.out.trans HY.out.symm)); clear hag
          have hk0 : (0 : Int) ≤ (k : Int) := by omega
          have hk1 : (k : Int) < n := by omega
          go_wp2
          go_quiet (fail)
          go_wp2
          go_roundw
          case rel => exact ⟨k + 1, by omega, by go_num, HA, drawn_n hdr _⟩
          case measure => simp [intOf]; omega
        · have hne : (x != y) = true := by simp; exact he
          have hk0 : (0 : Int) ≤ (k : Int) := by omega
          have hk1 : (k : Int) < n := by omega
          have fin : decide (xs = ys) = false := by
            simp; rintro rfl; exact he (HX.out.symm.trans HY.out)
          have FIN := hid fin; clear fin he
          go_wp2
          go_quiet (fail)
          go_wp2
          go_ret
          exact ⟨ret_bool FIN.out.symm, drawn_n hdr _⟩
      · have : k = n := by omega
        subst this
        have fin : decide (xs = ys) = true := by
          simp; exact agree_all 0 xs ys k H1.out H2.out hag.out
        have FIN := hid fin; clear fin hag
        go_wp2
        go_ret
        exact ⟨ret_bool FIN.out.symm, hdr⟩
  · have hne : ((n : Int) != (m : Int)) = true := by simp; omega
    have fin : decide (xs = ys) = false := by
      simp; rintro rfl; exact hnm (H1.out.symm.trans H2.out)
    have FIN := hid fin; clear fin
    go_enter Try.func30, Try.ntmps30
    go_wp2
    go_ret
    exact ⟨ret_bool FIN.out.symm, Drawn.refl _⟩
end Go.Proofs.Ytlebocjcelbbpaa
