/- File: the iterator over the missing ranges. -/
import Derived.Test.YtgeicbjlichdgaaDoorFileH
import Derived.RangeFuncNested
import Derived.RangeFuncBound
import Derived.RangeFuncLeaves
import Derived.Shelf.Abstract
import Derived.WalkKit
import Derived.OwnWalkIn
import Derived.TacticsInMore
import Derived.LoopNIn
import Derived.LoopIn
namespace Go.Proofs.YtgeicbjlichdgaaDoor
open Go.RowKit Go.Shelf
attribute [local go_sem] Oper.semAt_some
def gstep (st : Int × List (Int × Int)) (i : Nat) (is : Bool) : Int × List (Int × Int) :=
  if is = false ∧ st.1 < 0 then ((i : Int), st.2) else if is = true ∧ 0 ≤ st.1 then (-1, st.2 ++ [(st.1, (i : Int))]) else st
def gst (l : List Bool) : Nat → Int × List (Int × Int)
  | 0 => (-1, [])
  | k + 1 => gstep (gst l k) k (l.getD k false)
def gapsL (hv : List Bool) : List (Int × Int) := (gst (hv ++ [true]) (hv.length + 1)).2
theorem gst_s (l : List Bool) (k : Nat) : gst l (k + 1) = gstep (gst l k) k (l.getD k false) := rfl
theorem gst_b (l : List Bool) : ∀ k : Nat, -1 ≤ (gst l k).1 ∧ (gst l k).1 ≤ k ∧ (gst l k).2.length ≤ k := by
  intro k
  induction k with
  | zero => exact ⟨by show (-1 : Int) ≤ -1; omega, by show (-1 : Int) ≤ 0; omega, Nat.le_refl _⟩
  | succ k ih =>
    rw [gst_s]
    obtain ⟨h1, h2, h3⟩ := ih
    generalize gst l k = st at *
    obtain ⟨s1, s2⟩ := st
    simp only [] at h1 h2 h3
    unfold gstep
    split
    · exact ⟨by show (-1 : Int) ≤ (k : Int); omega, by show (k : Int) ≤ ((k + 1 : Nat) : Int); omega, by show s2.length ≤ _; omega⟩
    · split
      · exact ⟨by show (-1 : Int) ≤ -1; omega, by show (-1 : Int) ≤ ((k + 1 : Nat) : Int); omega, by show (s2 ++ [_]).length ≤ _; rw [List.length_append]; show _ + 1 ≤ _; omega⟩
      · exact ⟨h1, by show s1 ≤ ((k + 1 : Nat) : Int); omega, by show s2.length ≤ _; omega⟩
set_option maxRecDepth 100000 in
set_option maxHeartbeats 400000 in
theorem CloneBo_any (K : Nat → Prop) (v : Value) (l : List Bool) (w : World) (hv : Row K w 1 v l.length (bls l)) (hm : l.length ≤ 1000000000) :
    Calls Tryd.prog 50 #[v] w fun e w' => ∃ a c, e = .returned (.slice a l.length c) ∧ Own (fun k => w.heap.size ≤ k) w' 4 1 (.slice a l.length c) l.length (bls l) ∧ Keeps (fun _ => False) w w' := by
  obtain ⟨i0, hi, hz0, hz1, hz2⟩ := info_parts infoBo
  have hv0 := hid hv
  have hq : ∀ (w : World) (a : Option Addr) (n c n' c' : Nat), (binOp .eql 50 (.slice a n c) (.slice none n' c')).run Tryd.prog w = .ok (.bool a.isNone) w := fun w a n c n' c' => Lib.run_eql_slice_nil w _ _ a n c n' c' Tryd.underlying50
  have HB := hid (bls_one l)
  have HL := hid (bls_length l)
  generalize hbl : l.length = n at *
  generalize bls l = xs at *
  rcases hv with ⟨hl, ⟨rfl, rfl⟩ | ⟨bb, cap, rfl, _, _, _⟩⟩
  · obtain rfl := List.eq_nil_of_length_eq_zero (by omega : xs.length = 0)
    clear hv0
    go_enter Tryd.func50, Tryd.ntmps50
    go_wp2
    go_ret
    exact ⟨none, 0, rfl, Own.nil _ _ _ _, Keeps.refl _ _⟩
  · have HS : Hd (Row K (w.alloc (.cells #[] 4)) 1 (.slice (some bb) n cap) n xs) := hid (hv0.out.keep (keeps_alloc (fun _ => False) w (.cells #[] 4)) (fun _ _ _ h => h))
    have HO : Hd (Own (fun k => w.heap.size ≤ k) (w.alloc (.cells #[] 4)) 4 1 (.slice (some ⟨w.heap.size, 0, none⟩) 0 0) 0 []) :=
      hid ⟨World.ownsRow_lit w #[] 0 (Nat.zero_le _) (Nat.zero_le _) rfl, fun k hk => by injection hk with hk; simp at hk; omega⟩
    go_enter Tryd.func50, Tryd.ntmps50
    go_wp2_with (at_builtin; refine wpList_append_row rfl _ _ 50 rfl 4 i0 (.bool false) 1 1 Tryd.underlying50 hi hz0 hz1 hz2 rfl (by decide) _ K _ _ _ _ rfl HO.out n _ rfl HS.out HB.out ?h1 ?h2 ?_)
    case h1 => simp [maxLen]; omega
    case h2 => omega
    intro a1 cap1 w2 hown' hgrow; try intro _
    try simp only [Nat.zero_add, List.nil_append] at hown'
    have H1 := hid hown'; have H2 := hid hgrow; clear hown' hgrow
    go_wp2
    go_ret
    refine ⟨a1, cap1, by simp, ?_, ?_⟩
    · have h1 := H1.out.mono (K' := fun k => w.heap.size ≤ k) (fun b hb hh => by
        rcases hh with hh | hh
        · exact hh
        · omega)
      simpa using h1
    · exact ((keeps_alloc _ w _).trans' H2.out (fun i hi hs => by omega))
/-- blocks of truth values are left alone -/
def BoolK (W W' : World) : Prop := W.heap.size ≤ W'.heap.size ∧ ∀ b cs, Blk W b cs 4 → Blk W' b cs 4
theorem boolK_t {A B C : World} (h : BoolK A B) (k : BoolK B C) : BoolK A C := ⟨Nat.le_trans h.1 k.1, fun b cs hb => k.2 b cs (h.2 b cs hb)⟩
theorem boolK_of {S : Nat → Prop} {W W' : World} (hk : Keeps S W W') (h : ∀ b cs, Blk W b cs 4 → ¬ S b) : BoolK W W' := ⟨hk.size, fun b cs hb => blk_keep hb hk (h b cs hb)⟩
theorem boolK_b (W : World) (l : Nat) (o o' : Obj) (h : W.heap[l]? = some o) (ho : o.isCells = false) : BoolK W (W.putObj l o') := by
  have hg := grownBy_putObj' W l o'
  refine ⟨hg.size, fun b cs hb => ?_⟩
  refine (hg.block b (blk_lt hb) (fun e => ?_)).trans hb
  injection e with e; subst e
  rw [show W.heap[b]? = _ from hb] at h; cases h; cases ho
theorem grown_none {W W' : World} (hk : Keeps (fun _ => False) W W') : W.grownBy W' none := ⟨hk.os, hk.tape, hk.output, hk.size, fun k h1 _ => hk.block k h1 (fun h => h)⟩
set_option maxRecDepth 100000 in set_option maxHeartbeats 1000000 in
theorem missing1_in (n : Nat) (l Bt p : Nat) (hv : List Bool) (ah : Option Addr) (ch : Nat) (J Jx : List (Int × Int) → World → Prop)
    (hY : ∀ pre x W, J pre W → pre.length < hv.length + 2 → YieldAt Fence.wide (n - 1) Tryd.prog l #[.agg #[.int .i64 x.1, .int .i64 x.2]] W fun e W' =>
      (e = .returned (.bool true) ∧ J (pre ++ [x]) W' ∧ BoolK W W') ∨ (e = .returned (.bool false) ∧ Jx (pre ++ [x]) W'))
    (W : World) (hJ : AbidesFrom W.heap.size J) (hBt : W.cell? ⟨Bt, 0, none⟩ = some (.pointer (some ⟨p, 0, none⟩))) (hp3 : W.cell? ⟨p, 3, none⟩ = some (.slice ah hv.length ch)) (hrow : Row (fun _ => True) W 1 (.slice ah hv.length ch) hv.length (bls hv)) (hm : hv.length ≤ 65536) (h0 : J [] W) :
    CallsIn Fence.wide n Tryd.prog 61 #[.func (.yield l) #[] #[], .pointer (some ⟨Bt, 0, none⟩)] W fun e W' => (∃ v, e = .returned v) ∧
      ((∃ ys, ys = gapsL hv ∧ J ys W') ∨ (∃ pre, (∃ k, k ≤ hv.length + 1 ∧ pre = (gst (hv ++ [true]) k).2) ∧ Jx pre W')) := by
  obtain ⟨i0, hi, hz0, hz1, hz2⟩ := info_parts infoBo
  have HROW := hid hrow; clear hrow
  have HG : Hd (gapsL hv = (gst (hv ++ [true]) (hv.length + 1)).2) := hid rfl
  obtain ⟨L, hL⟩ : ∃ L, hv ++ [true] = L := ⟨_, rfl⟩
  rw [hL] at HG ⊢
  have HLE : Hd (bls L = bls hv ++ [.bool true]) := hid (by rw [← hL]; simp [bls])
  have HLL0 : L.length = hv.length + 1 := by rw [← hL]; simp
  clear hL
  generalize hml : hv.length = m at *
  have HLL := hid HLL0; clear HLL0
  have HML := hid hml; clear hml
  refine callsIn_of_wp Tryd.func61 rfl trivial ?_ rfl
  simp only [Tryd.ntmps61, List.size_toArray, List.length_cons, List.length_nil, Nat.reduceAdd, Nat.reduceSub, Array.replicate_succ, Array.replicate_zero, List.push_toArray, List.append_toArray, List.nil_append, List.cons_append]
  gi_wp2_with fail
  refine ⟨trivial, fun h => (by cases h), ?_⟩
  refine (callsIn_wide.2 (CloneBo_any _ _ hv _ (by rw [HML.out]; exact HROW.out) (by rw [HML.out]; omega))).mono ?_
  rw [HML.out]
  rintro e w2 ⟨a2, c2, rfl, ho2, hk2⟩
  have H2 := hid ho2; have K2 := hid hk2; clear ho2 hk2 hBt hp3
  have HA2 := hid (H2.out.alloc (.cells #[.bool true] 4))
  gi_wp2_with (gi_at_builtin; refine wpListIn_append_own _ rfl _ _ 50 rfl 0 4 i0 (.bool false) 1 1 Tryd.underlying50 hi hz0 hz1 hz2 rfl (by decide) _ _ _ rfl HA2.out.1 ⟨w2.heap.size, 0, none⟩ 1 1 [.bool true] rfl rfl (cell_one_new _ _ _) (by simp [Value.oneCell']) (by unfold maxLen; omega) (by omega) (Nat.zero_le _) ?_)
  intro v' w3 hown hg _
  rw [← HLE.out] at hown
  have K3 : Hd (Keeps (fun _ => False) W w3) := hid ((K2.out.alloc _).grown hg (fun k hk => .inr (H2.out.2 k hk |> fun h => by have := K2.out.size; omega)))
  have hJ3 : J [] w3 := hJ _ _ _ none h0 (grown_none K3.out) (by simp)
  obtain ⟨g, cap, cur, rfl, hBg, hn1, hn2, hn3, htk⟩ : ∃ g cap cur, v' = .slice (some ⟨g, 0, none⟩) (m + 1) cap ∧ Hd (Blk w3 g cur 4) ∧ m + 1 ≤ cap ∧ cap ≤ maxLen ∧ cur.size = cap * 1 ∧ cur.toList.take ((m + 1) * 1) = bls L := by
    rcases hown.2 with ⟨_, h⟩ | ⟨g, cap, cur, h1, _, h3, h4, h5, h6, h7⟩
    · omega
    · exact ⟨g, cap, cur, h1, hid h3, h4, h5, h6, h7⟩
  have HCELL : Hd (∀ wq, Blk wq g cur 4 → ∀ j, j < m + 1 → wq.cell? ⟨g, j, none⟩ = some (.bool (L.getD j false))) := hid (fun wq hb j hj => by
    rw [blk_cell hb j]
    have h1 : (cur.toList.take ((m + 1) * 1))[j]? = (bls L)[j]? := by rw [htk]
    rw [List.getElem?_take, if_pos (by omega), Array.getElem?_toList] at h1
    rw [h1, List.getD, List.getElem?_eq_getElem (by rw [bls_length, HLL.out]; omega)]
    simp [bls, List.getElem?_eq_getElem (show j < L.length by rw [HLL.out]; omega)])
  unfold maxLen at hn2
  clear hown hg htk hn3 HA2 H2 K2 K3 h0 HLE HROW
  gi_wp2
  gi_loopw [3, 14] (fun fv iv wr => ∃ k : Nat, k ≤ m + 1 ∧ iv = .int .i64 k ∧ fv = .int .i64 (gst L k).1 ∧ J (gst L k).2 wr ∧ Hd (Blk wr g cur 4)) (fun _ i _ => m + 1 - (intOf i).toNat)
  case atStart => exact ⟨0, Nat.zero_le _, rfl, rfl, hJ3, hBg⟩
  case round =>
    obtain ⟨k, hk, rfl, rfl, hJs, hB⟩ := hrel
    by_cases hkm : k < m + 1
    · have hc := HCELL.out wr hB.out k hkm
      obtain ⟨b1, b2, b3⟩ := gst_b L k
      have hs := gst_s L k
      generalize hst : gst L k = st at *
      obtain ⟨s1, s2⟩ := st
      have HS := hid hs
      clear hs hst
      simp only [] at b1 b2 b3 hJs
      have k1 : (k : Int) < m + 1 := by omega
      have k1' : (k : Int) < ((m + 1 : Nat) : Int) := by omega
      have k2 : (0 : Int) ≤ k := by omega
      generalize hbit : L.getD k false = bit at *
      clear hbit
      by_cases hs1 : s1 < 0
      · have d1 : decide (s1 < 0) = true := by simp; exact hs1
        have d2 : decide (0 ≤ s1) = false := by simp; omega
        cases bit with
        | false =>
          have HN : Hd (gst L (k + 1) = ((k : Int), s2)) := hid (by rw [HS.out]; unfold gstep; rw [if_pos ⟨rfl, hs1⟩])
          clear hs1
          gi_wp2
          go_roundw
          case rel => exact ⟨k + 1, by omega, by go_num, by rw [HN.out], by rw [HN.out]; exact hJs, hB⟩
          case measure => simp [intOf]; omega
        | true =>
          have HN : Hd (gst L (k + 1) = (s1, s2)) := hid (by rw [HS.out]; unfold gstep; rw [if_neg (fun h => by cases h.1), if_neg (fun h => by have := h.2; simp at this; omega)])
          clear hs1
          gi_wp2
          go_roundw
          case rel => exact ⟨k + 1, by omega, by go_num, by rw [HN.out], by rw [HN.out]; exact hJs, hB⟩
          case measure => simp [intOf]; omega
      · have d1 : decide (s1 < 0) = false := by simp; omega
        have d2 : decide (0 ≤ s1) = true := by simp; omega
        cases bit with
        | false =>
          have HN : Hd (gst L (k + 1) = (s1, s2)) := hid (by rw [HS.out]; unfold gstep; rw [if_neg (fun h => hs1 h.2), if_neg (fun h => by cases h.1)])
          clear hs1
          gi_wp2
          go_roundw
          case rel => exact ⟨k + 1, by omega, by go_num, by rw [HN.out], by rw [HN.out]; exact hJs, hB⟩
          case measure => simp [intOf]; omega
        | true =>
          have HN : Hd (gst L (k + 1) = (-1, s2 ++ [(s1, (k : Int))])) := hid (by rw [HS.out]; unfold gstep; rw [if_neg (fun h => by cases h.1), if_pos ⟨rfl, by simp; omega⟩])
          obtain ⟨fn, tmps, assign, body, hy, hR⟩ := hY _ (s1, (k : Int)) wr hJs (by first | omega | (rw [HML.out]; omega))
          clear hs1
          simp only [] at hy hR
          gi_wp2
          refine ⟨fun h => (by cases h), ?_⟩
          refine hR.mono ?_
          rintro e W3 (⟨rfl, hJ4, hk4⟩ | ⟨rfl, hJx4⟩)
          · gi_wp2
            go_roundw
            case rel => exact ⟨k + 1, by omega, by go_num, by rw [HN.out], by rw [HN.out]; exact hJ4, hid (hk4.2 _ _ hB.out)⟩
            case measure => simp [intOf]; omega
          · gi_wp2
            refine bodyPost_ret (results_none rfl _ _ _) rfl ?_
            exact ⟨⟨_, rfl⟩, .inr ⟨_, ⟨k + 1, by omega, by rw [HN.out]⟩, hJx4⟩⟩
    · obtain rfl : k = m + 1 := by omega
      have k0 : ¬ (((m + 1 : Nat) : Int) < ((m + 1 : Nat) : Int)) := by omega
      gi_wp2
      go_end0
      exact ⟨⟨_, rfl⟩, .inl (by first | exact ⟨_, HG.out.symm, hJs⟩ | (rw [HG.out]; exact hJs))⟩
end Go.Proofs.YtgeicbjlichdgaaDoor
