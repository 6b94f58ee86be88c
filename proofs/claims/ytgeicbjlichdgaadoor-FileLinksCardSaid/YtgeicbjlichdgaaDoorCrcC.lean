/- The walks of Seal and Open, and of the reference's. -/
import Derived.Test.YtgeicbjlichdgaaDoorCrcB
import Derived.WalkSpells
import Derived.Deep.RegionHeld3
import Derived.Deep.DrawnRows
namespace Go.Proofs.YtgeicbjlichdgaaDoor.Cr
open Go.RowKit
attribute [local go_sem ↓] Go.wp_at_zero Go.wp_at_succ
set_option maxRecDepth 100000 in set_option maxHeartbeats 400000 in
theorem Equal_any (K1 K2 : Nat → Prop) (v1 v2 : Value) (xs ys : List Nat) (w : World) (h1 : Sl K1 w v1 (u8s xs)) (h2 : Sl K2 w v2 (u8s ys)) (hm : xs.length ≤ 1000000000) :
    Calls Tryd.prog 67 #[v1, v2] w fun e w' => e = .returned (.bool (decide (xs = ys))) ∧ Drawn w w' := by
  obtain ⟨a1, c1, rfl, hc1, hc1m, h1⟩ := h1.bytes
  obtain ⟨a2, c2, rfl, hc2, hc2m, h2⟩ := h2.bytes
  generalize hl1 : xs.length = n at *
  generalize hl2 : ys.length = m at *
  have C1 := hid h1; have C2 := hid h2; clear h1 h2
  have H1 := hid hl1; have H2 := hid hl2; clear hl1 hl2
  by_cases hnm : n = m
  · subst hnm
    go_enter Tryd.func67, Tryd.ntmps67
    go_wp2
    go_loopw [13] (fun i w' => ∃ k : Nat, k ≤ n ∧ i = .int .i64 k ∧ Hd (∀ j, j < k → xs.getD j 0 = ys.getD j 0) ∧ Drawn w w') (fun i _ => n - (intOf i).toNat)
    case atStart => exact ⟨0, by omega, rfl, hid (fun j hj => by omega), Drawn.refl _⟩
    case round =>
      obtain ⟨k, hk, rfl, hag, hdr⟩ := hrel
      by_cases hlt : k < n
      · obtain ⟨b1, o1, rfl, _, _, d1⟩ := C1.out (by omega)
        obtain ⟨b2, o2, rfl, _, _, d2⟩ := C2.out (by omega)
        have e1 := hdr.cell (d1 k hlt); clear d1
        have e2 := hdr.cell (d2 k hlt); clear d2
        generalize hx : xs.getD k 0 = x at *
        generalize hy : ys.getD k 0 = y at *
        have HX := hid hx; have HY := hid hy; clear hx hy
        by_cases he : x = y
        · subst he
          have HA := hid (agree_step 0 xs ys k hag.out (HX.out.trans HY.out.symm)); clear hag
          have hk0 : (0 : Int) ≤ (k : Int) := by omega
          have hk1 : (k : Int) < n := by omega
          go_wp2
          go_quiet (fail)
          go_wp2
          go_roundw
          case rel => exact ⟨k + 1, by omega, by go_num, HA, drawn_n hdr _⟩
          case measure => simp [intOf]; omega
        · have hne : ((x : Int) != (y : Int)) = true := by simp; omega
          have hk0 : (0 : Int) ≤ (k : Int) := by omega
          have hk1 : (k : Int) < n := by omega
          have fin : decide (xs = ys) = false := by
            simp; rintro rfl; exact he (HX.out.symm.trans HY.out)
          have FIN := hid fin; clear fin he
          go_wp2
          go_quiet (fail)
          go_wp2
          go_ret
          exact ⟨ret_bool FIN.out.symm, drawn_n hdr _⟩
      · have : k = n := by omega
        subst this
        have fin : decide (xs = ys) = true := by
          simp; exact agree_all 0 xs ys k H1.out H2.out hag.out
        have FIN := hid fin; clear fin hag
        go_wp2
        go_ret
        exact ⟨ret_bool FIN.out.symm, hdr⟩
  · have hne : ((n : Int) != (m : Int)) = true := by simp; omega
    have fin : decide (xs = ys) = false := by
      simp; rintro rfl; exact hnm (H1.out.symm.trans H2.out)
    have FIN := hid fin; clear fin
    go_enter Tryd.func67, Tryd.ntmps67
    go_wp2
    go_ret
    exact ⟨ret_bool FIN.out.symm, Drawn.refl _⟩

set_option maxRecDepth 100000 in
set_option maxHeartbeats 400000 in
theorem CloneB_any (K : Nat → Prop) (v : Value) (b : List Nat) (w : World) (hv : Sl K w v (u8s b)) (hm : b.length ≤ 140737488351232) :
    Calls Tryd.prog 45 #[v] w fun e w' => NewRet w 5 (u8s b) e w' := by
  obtain ⟨i0, hi, hz0, hz1, hz2⟩ := info_parts infoU8
  have hv0 := hid hv
  have HM := hid hm; clear hm
  have hq : ∀ (w : World) (a : Option Addr) (n c n' c' : Nat), (binOp .eql 22 (.slice a n c) (.slice none n' c')).run Tryd.prog w = .ok (.bool a.isNone) w := fun w a n c n' c' => Lib.run_eql_slice_nil w _ _ a n c n' c' Tryd.underlying22
  rcases hv.bcases with ⟨rfl, rfl⟩ | ⟨bb, cap, rfl⟩
  · clear hv hv0
    go_enter Tryd.func45, Tryd.ntmps45
    go_wp2
    go_ret
    exact ⟨none, 0, 0, rfl, rfl, Own.nil _ _ _ _, Keeps.refl _ _⟩
  · clear hv
    have HS : Hd (Sl K (w.alloc (.cells #[] 5)) (.slice (some bb) b.length cap) (u8s b)) := hid (hv0.out.keep (keeps_alloc (fun _ => False) w (.cells #[] 5)) (fun _ _ _ h => h))
    generalize hbl : b.length = n at *
    have HBL := hid hbl; clear hbl
    have HO : Hd (Own (fun k => w.heap.size ≤ k) (w.alloc (.cells #[] 5)) 5 1 (.slice (some ⟨w.heap.size, 0, none⟩) 0 0) 0 []) :=
      hid ⟨World.ownsRow_lit w #[] 0 (Nat.zero_le _) (Nat.zero_le _) rfl, fun k hk => by injection hk with hk; simp at hk; omega⟩
    go_enter Tryd.func45, Tryd.ntmps45
    go_wp2_with (at_builtin; refine wpList_append_row rfl _ _ 22 rfl 5 i0 (.int .u8 0) 1 1 Tryd.underlying22 hi hz0 hz1 hz2 rfl (by decide) _ K _ _ _ _ rfl HO.out n _ rfl (sl_row HS.out (by simp [HBL.out])) (u8s_one _) ?h1 ?h2 ?_)
    case h1 => have := HM.out; simp [maxLen]; omega
    case h2 => have := HM.out; omega
    intro a1 cap1 w2 hown' hgrow; try intro _
    try simp only [Nat.zero_add, List.nil_append] at hown'
    have H1 := hid hown'; have H2 := hid hgrow; clear hown' hgrow
    go_wp2
    go_ret
    refine ⟨a1, n, cap1, by simp, by simp [HBL.out], ?_, ?_⟩
    · have h1 := H1.out.mono (K' := fun k => w.heap.size ≤ k) (fun b hb hh => by
        rcases hh with hh | hh
        · exact hh
        · omega)
      simpa [HBL.out] using h1
    · exact ((keeps_alloc _ w _).trans' H2.out (fun i hi hs => by omega))

theorem own_sl {w : World} {a : Option Addr} {n c : Nat} {S : Nat → Prop} {xs : List Nat} (h : Own S w 5 1 (.slice a n c) n (u8s xs)) (hn : n = (u8s xs).length) : Sl S w (.slice a n c) (u8s xs) := row_sl h.row hn.symm
set_option maxRecDepth 100000 in set_option maxHeartbeats 1000000 in
theorem Seal_any (K : Nat → Prop) (v : Value) (l : List Nat) (w : World) (hN : Nib w) (hv : Sl K w v (u8s l)) (hl : ∀ c ∈ l, c < 256) (hm : l.length ≤ 900000000) :
    Calls Tryd.prog 53 #[v] w fun e w' => NewRet w 5 (u8s (seal_ l)) e w' := by
  have HN := hid hN; have HL := hid hl; have HV := hid (hv.mono (K' := fun b => b < w.heap.size) (fun b h _ => h))
  have HC := hid (crc_lt hl)
  obtain ⟨a, cap, rfl, _⟩ := hv.bytes
  clear hN hl hv
  generalize hll : l.length = n at *
  have HLL := hid hll; clear hll
  go_enter Tryd.func53, Tryd.ntmps53
  go_wp2_with fail
  refine (Sum_any _ _ l _ HN.out HV.out HL.out (by rw [HLL.out]; omega)).mono ?_
  rintro e w1 ⟨rfl, rfl⟩
  go_wp2_with fail
  refine (bytes_any _ _ HC.out).mono ?_
  rintro e w1 ⟨a1, n1, c1, rfl, hn, ho, hk⟩
  have HK1 := hid hk; have HO1 := hid (own_sl ho hn); have zz := hk.size
  clear hn ho hk
  go_wp2_with fail
  generalize hW : World.alloc w1 _ = W
  have B0 : Blk W w1.heap.size #[.slice a n cap, .slice a1 n1 c1] 22 := by rw [← hW]; exact blk_new _ _ _
  have kW : Keeps (fun _ => False) w1 W := by rw [← hW]; exact keeps_alloc _ _ _
  clear hW
  refine (Concat_any (fun b => b < W.heap.size) w1.heap.size _ _ l (le4 (crc l)) _ (blk_cell B0 0) (blk_cell B0 1) (((HV.out.keep HK1.out (fun _ _ _ h => h)).keep kW (fun _ _ _ h => h)).mono (fun b hb _ => hb)) ((HO1.out.keep kW (fun _ _ _ h => h)).mono (fun b hb _ => hb)) (by rw [HLL.out]; simp [le4]; omega)).mono ?_
  rintro e w2 ⟨a2, n2, c2, rfl, hn2, ho2, hk2⟩
  have zk := kW.size
  have HR : Hd (NewRet w 5 (u8s (seal_ l)) (.returned (.slice a2 n2 c2)) w2) := hid ⟨a2, n2, c2, rfl, hn2, ho2.mono (fun b _ hb => by omega), (HK1.out.trans kW).trans hk2⟩
  clear hn2 ho2 hk2 kW B0
  go_wp2
  go_ret
  exact HR.out
/-- what Open hands back -/
def opened (l : List Nat) : List Nat × Int := if l.length < 4 then ([], 6) else if le4 (crc (l.take (l.length - 4))) = l.drop (l.length - 4) then (l.take (l.length - 4), 0) else ([], 8)
def OpenRet (l : List Nat) (w : World) (r : Ending) (w' : World) : Prop := ∃ a n c, r = .returned (.tuple #[.slice a n c, .int .i64 (opened l).2]) ∧ n = (opened l).1.length ∧ Own (fun k => w.heap.size ≤ k) w' 5 1 (.slice a n c) n (u8s (opened l).1) ∧ Keeps (fun _ => False) w w'
theorem opened_short {l : List Nat} (h : l.length < 4) : opened l = ([], 6) := by unfold opened; rw [if_pos h]
theorem opened_yes {l : List Nat} (h : ¬ l.length < 4) (h2 : le4 (crc (l.take (l.length - 4))) = l.drop (l.length - 4)) : opened l = (l.take (l.length - 4), 0) := by unfold opened; rw [if_neg h, if_pos h2]
theorem opened_no {l : List Nat} (h : ¬ l.length < 4) (h2 : ¬ le4 (crc (l.take (l.length - 4))) = l.drop (l.length - 4)) : opened l = ([], 8) := by unfold opened; rw [if_neg h, if_neg h2]
set_option maxRecDepth 100000 in set_option maxHeartbeats 1000000 in
theorem Open_any (K : Nat → Prop) (v : Value) (l : List Nat) (w : World) (hN : Nib w) (hv : Sl K w v (u8s l)) (hl : ∀ c ∈ l, c < 256) (hm : l.length ≤ 900000000) :
    Calls Tryd.prog 55 #[v] w fun e w' => OpenRet l w e w' := by
  have HN := hid hN; have HL := hid hl; have HV : Hd (Sl (fun b => b < w.heap.size) w v (u8s l)) := hid (hv.mono (fun b h _ => h))
  obtain ⟨i0, hi, hz0, hz1, hz2⟩ := info_parts infoU8
  obtain ⟨a, cap, rfl, q1, q2, q3⟩ := hv.bytes
  clear hN hl hv q3
  unfold maxLen at q2
  by_cases h4 : l.length < 4
  · have HE := hid (opened_short h4)
    generalize hll : l.length = n at *
    clear hll
    go_enter Tryd.func55, Tryd.ntmps55
    go_wp2
    go_ret2
    refine ⟨none, 0, 0, ?_, by rw [HE.out]; rfl, by rw [HE.out]; exact Own.nil _ _ _ _, Keeps.refl _ _⟩
    rw [HE.out]; rfl
  · obtain ⟨k, hk⟩ : ∃ k, l.length = k + 4 := ⟨l.length - 4, by omega⟩
    have HROW : Row (fun b => b < w.heap.size) w 1 (.slice a l.length cap) l.length (u8s l) := sl_row HV.out (by simp)
    have HT := hid (crc_lt (take_lt HL.out k))
    have HY : Hd (le4 (crc (l.take k)) = l.drop k → opened l = (l.take k, 0)) := hid (fun h => by have := opened_yes h4; rw [hk] at this; exact this h)
    have HNO : Hd (¬ le4 (crc (l.take k)) = l.drop k → opened l = ([], 8)) := hid (fun h => by have := opened_no h4; rw [hk] at this; exact this h)
    have HTL : Hd ((l.take k).length = k) := hid (by rw [List.length_take]; omega)
    have HDL : Hd ((l.drop k).length = 4) := hid (by rw [List.length_drop]; omega)
    have HLT := hid (take_lt HL.out k)
    rw [hk] at HROW HV q1 hm h4 ⊢
    obtain ⟨a2, c2, hcut2, hrow2⟩ := run_cut_to (P := Tryd.prog) (t := 22) Tryd.underlying22 hi hz1 HROW (hh := ((k + 4 : Nat) : Int) - 4) k (by omega) (by omega)
    obtain ⟨a3, c3, hcut3, hrow3⟩ := run_cut_from (P := Tryd.prog) (t := 22) Tryd.underlying22 hi hz1 HROW (lo := ((k + 4 : Nat) : Int) - 4) k (by omega) (by omega)
    have e1 : ((k + 4 : Nat) : Int) - 4 = k := by omega
    have e2 : ((k : Int) + 4) - 4 = k := by omega
    rw [e1] at hcut2 hcut3
    have e3 : k + 4 - k = 4 := by omega
    rw [e3] at hcut3 hrow3
    have S2 : Hd (Sl (fun b => b < w.heap.size) w (.slice a2 k c2) (u8s (l.take k))) := hid (by
      have := hrow2; rw [show (u8s l).take (k * 1) = u8s (l.take k) by simp [u8s, List.map_take]] at this
      exact row_sl this (by rw [u8s_length]; exact HTL.out))
    have S3 : Hd (Sl (fun b => b < w.heap.size) w (.slice a3 4 c3) (u8s (l.drop k))) := hid (by
      have := hrow3; rw [show ((u8s l).drop (k * 1)).take (4 * 1) = u8s (l.drop k) by rw [List.take_of_length_le (by simp; omega)]; simp [u8s, List.map_drop]] at this
      exact row_sl this (by rw [u8s_length]; exact HDL.out))
    clear hrow2 hrow3 HROW hi hz0 hz1 hz2 hk
    have hk9 : k ≤ 900000000 := by omega
    by_cases hq : le4 (crc (l.take k)) = l.drop k
    · have HE := hid (HY.out hq)
      have HQ : Hd (decide (le4 (crc (l.take k)) = l.drop k) = true) := hid (decide_eq_true hq)
      clear hq HY HNO
      go_enter Tryd.func55, Tryd.ntmps55
      go_wp2_with fail
      go_region_held3 (fun _ => True) (trivial) (first | (go_at_call 29; refine (Sum_any (fun b => b < w.heap.size) _ (l.take k) _ (by exact HN.out) (by exact S2.out) HLT.out (by rw [HTL.out]; omega)).mono ?_; rintro e w1 ⟨rfl, rfl⟩) | (go_at_call 66; refine (bytes_any _ _ HT.out).mono ?_; rintro e w1 ⟨a1, n1, c1, rfl, hn1, ho1, hk1⟩; replace hn1 := hid hn1; replace ho1 := hid ho1; replace hk1 := hid hk1) | (go_at_call 67; refine (Equal_any (fun b => w.heap.size ≤ b) (fun b => b < w.heap.size) _ _ (le4 (crc (l.take k))) (l.drop k) _ (by exact own_sl ho1.out hn1.out) (by exact (S3.out.keep (Keeps.trans (Keeps.drew (Keeps.refl (fun _ => False) w)) hk1.out) (fun _ _ _ h => h))) (by simp [le4])).mono ?_; rw [HQ.out]; rintro e w2 ⟨rfl, hd2⟩; replace hd2 := hid hd2))
      all_goals
        have HKW : Hd (Keeps (fun _ => False) w w2) := hid ((Keeps.trans (Keeps.drew (Keeps.refl (fun _ => False) w)) hk1.out).trans (drawn_keeps _ hd2.out))
        go_wp2_with fail
        refine (CloneB_any (fun b => b < w.heap.size) _ (l.take k) _ (S2.out.keep HKW.out (fun _ _ _ h => h)) (by rw [HTL.out]; omega)).mono ?_
        rintro e w3 ⟨a4, n4, c4, rfl, hn4, ho4, hk4⟩
        have HR : Hd (OpenRet l w (.returned (.tuple #[.slice a4 n4 c4, .int .i64 0])) w3) := hid ⟨a4, n4, c4, by rw [HE.out], by rw [HE.out]; simpa using hn4, by rw [HE.out]; exact ho4.mono (fun b _ hb => Nat.le_trans HKW.out.size hb), HKW.out.trans hk4⟩
        clear hn4 ho4 hk4
        go_wp2
        go_ret2
        exact HR.out
    · have HE := hid (HNO.out hq)
      have HQ : Hd (decide (le4 (crc (l.take k)) = l.drop k) = false) := hid (decide_eq_false hq)
      clear hq HY HNO
      go_enter Tryd.func55, Tryd.ntmps55
      go_wp2_with fail
      go_region_held3 (fun _ => True) (trivial) (first | (go_at_call 29; refine (Sum_any (fun b => b < w.heap.size) _ (l.take k) _ (by exact HN.out) (by exact S2.out) HLT.out (by rw [HTL.out]; omega)).mono ?_; rintro e w1 ⟨rfl, rfl⟩) | (go_at_call 66; refine (bytes_any _ _ HT.out).mono ?_; rintro e w1 ⟨a1, n1, c1, rfl, hn1, ho1, hk1⟩; replace hn1 := hid hn1; replace ho1 := hid ho1; replace hk1 := hid hk1) | (go_at_call 67; refine (Equal_any (fun b => w.heap.size ≤ b) (fun b => b < w.heap.size) _ _ (le4 (crc (l.take k))) (l.drop k) _ (by exact own_sl ho1.out hn1.out) (by exact (S3.out.keep (Keeps.trans (Keeps.drew (Keeps.refl (fun _ => False) w)) hk1.out) (fun _ _ _ h => h))) (by simp [le4])).mono ?_; rw [HQ.out]; rintro e w2 ⟨rfl, hd2⟩; replace hd2 := hid hd2))
      all_goals
        have HKW : Hd (Keeps (fun _ => False) w w2) := hid ((Keeps.trans (Keeps.drew (Keeps.refl (fun _ => False) w)) hk1.out).trans (drawn_keeps _ hd2.out))
        have HR : Hd (OpenRet l w (.returned (.tuple #[.slice none 0 0, .int .i64 8])) w2) := hid ⟨none, 0, 0, by rw [HE.out], by rw [HE.out]; rfl, by rw [HE.out]; exact Own.nil _ _ _ _, HKW.out⟩
        go_wp2
        go_ret2
        exact HR.out
end Go.Proofs.YtgeicbjlichdgaaDoor.Cr
