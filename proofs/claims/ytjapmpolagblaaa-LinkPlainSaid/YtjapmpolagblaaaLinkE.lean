/- link.own. -/
import Derived.Test.YtjapmpolagblaaaLinkD
import Derived.Deep.Cut
namespace Go.Proofs.Ytjapmpolagblaaa
open Go.RowKit
attribute [local go_sem ↓] Go.wp_at_zero Go.wp_at_succ
theorem row_none {K : Nat → Prop} {w : World} {size n c : Nat} {a : Option Addr} {xs : List Value} (h : Row K w size (.slice a n c) n xs) (hn : 0 < n) : ∃ x, a = some x := by
  obtain ⟨_, ⟨h1, h2⟩ | ⟨x, cap, h1, _⟩⟩ := h
  · omega
  · injection h1 with h1; exact ⟨x, h1⟩
/-- the value of one cell turned -/
theorem set_getD {xs : List Value} {p q : Nat} {u : Value} (hq : q < xs.length) : (xs.set p u).getD q undef = if p = q then u else xs.getD q undef := by
  rw [List.getD, List.getElem?_set]
  by_cases h : p = q
  · subst h; simp [hq]
  · simp [h]
def OwnPost (w : World) (l : List Flt) (r : Ending) (w' : World) : Prop := ∃ a c, r = .returned (.slice a l.length c) ∧ FlO w.heap.size w' (.slice a l.length c) l ∧ Keeps (fun _ => False) w w'
set_option maxRecDepth 100000 in set_option maxHeartbeats 1000000 in
theorem own_any (v : Value) (l : List Flt) (w : World) (hv : Fls (fun b => b < w.heap.size) w v l) (hm : l.length ≤ 1000000) (hd : ∀ x ∈ l, x.d.length ≤ 140737488351232) :
    Calls Try.prog 18 #[v] w fun e w' => OwnPost w l e w' := by
  obtain ⟨xs, hrow, hcells⟩ := hv
  have HROW := hid hrow; have HCE := hid hcells; have HDD := hid hd
  have HONE := hid (fl_one (by have := hrow.1; omega) hcells)
  clear hrow hcells hd
  generalize hll : l.length = m at *
  have HLL := hid hll
  go_enter Try.func18, Try.ntmps18
  go_wp2_with fail
  refine (CloneF_any _ v l xs _ (by rw [HLL.out]; exact HROW.out) HONE.out (by rw [HLL.out]; omega)).mono ?_
  rw [HLL.out]
  rintro e w1 ⟨a1, c1, rfl, ho, hk⟩
  have HOB : Hd (∀ b, (Value.slice a1 m c1).ownBlock = some b → w.heap.size ≤ b) := hid ho.2
  have HO1 := hid (own_none ho)
  have K1 := hid hk
  have HIC1 : Hd (∀ i x, l[i]? = some x → FlCells (fun b => (Value.slice a1 m c1).ownBlock ≠ some b ∧ (i < 0 → w.heap.size ≤ b)) w1 (fun j => xs.getD (i * 5 + j) undef) x) := hid (fun i x hi => ((HCE.out i x hi).keep hk (fun _ _ _ h => h)).mono (fun b _ h => ⟨fun hb => by have := HOB.out b hb; omega, fun h0 => by omega⟩))
  clear ho hk HROW HCE HONE hll
  go_wp2_with fail
  go_loopw [9] (fun i wr => ∃ (k : Nat) (xs : List Value), i = .int .i64 k ∧ k ≤ m ∧ Hd (Own (fun b => (Value.slice a1 m c1).ownBlock = some b) wr 59 5 (.slice a1 m c1) m xs) ∧
    Hd (∀ i x, l[i]? = some x → FlCells (fun b => (Value.slice a1 m c1).ownBlock ≠ some b ∧ (i < k → w.heap.size ≤ b)) wr (fun j => xs.getD (i * 5 + j) undef) x) ∧ Hd (Keeps (fun _ => False) w wr)) (fun i _ => m - (intOf i).toNat)
  case atStart => exact ⟨0, xs, rfl, by omega, HO1, HIC1, K1⟩
  case round =>
    clear HO1 HIC1 K1
    obtain ⟨k, xs, rfl, hk, HO, HIC, K0⟩ := hrel
    by_cases hkm : k < m
    · obtain ⟨x, hxk⟩ : ∃ x, l[k]? = some x := ⟨l[k]'(by rw [HLL.out]; exact hkm), List.getElem?_eq_getElem _⟩
      have hxm : x ∈ l := List.mem_of_getElem? hxk
      obtain ⟨x0, hx0⟩ := row_none HO.out.row (by omega)
      subst hx0
      obtain ⟨g, hg⟩ : ∃ g, x0 = ⟨g, 0, none⟩ := by
        rcases HO.out.1.2 with ⟨h, _⟩ | ⟨g, cap, cur, h, _⟩
        · injection h with h; cases h
        · injection h with h; injection h with h; exact ⟨g, h⟩
      subst hg
      have hgw : w.heap.size ≤ g := HOB.out g rfl
      have hglt : g < wr.heap.size := (HO.out.1.lt g rfl).2
      have hxl : xs.length = m * 5 := HO.out.1.1
      obtain ⟨c0, c1', c2, c3, c4⟩ := HIC.out k x hxk
      obtain ⟨ab, cb, e4, _⟩ := c4.bytes
      have key : ∀ j, j < 5 → wr.cell? ⟨g, k * 5 + j, none⟩ = some (xs.getD (k * 5 + j) undef) := fun j hj => by
        rw [HO.out.1.cellAt (k * 5 + j) (by omega), List.getD, List.getElem?_eq_getElem (by omega)]; rfl
      have f0 : wr.cell? ⟨g, k * 5, none⟩ = some (.int .i64 x.t) := (key 0 (by omega)).trans (congrArg some c0)
      have f1 : wr.cell? ⟨g, k * 5 + 1, none⟩ = some (.int .i64 x.n) := (key 1 (by omega)).trans (congrArg some c1')
      have f2 : wr.cell? ⟨g, k * 5 + 2, none⟩ = some (.int .i64 x.f) := (key 2 (by omega)).trans (congrArg some c2)
      have f3 : wr.cell? ⟨g, k * 5 + 3, none⟩ = some (.int .i64 x.g) := (key 3 (by omega)).trans (congrArg some c3)
      have f4 : wr.cell? ⟨g, k * 5 + 4, none⟩ = some (.slice ab x.d.length cb) := (key 4 (by omega)).trans (congrArg some e4)
      have SD : Hd (Sl (fun b => (Value.slice (some ⟨g, 0, none⟩) m c1).ownBlock ≠ some b) wr (.slice ab x.d.length cb) (u8s x.d)) := hid (by
        have h2 : xs.getD (k * 5 + 4) undef = .slice ab x.d.length cb := e4
        have := c4; simp only [h2] at this
        exact this.mono (fun _ _ h => h.1))
      have HDK : Hd (x.d.length ≤ 140737488351232) := hid (HDD.out _ hxm)
      have k1 : (k : Int) < m := by omega
      have k2 : (0 : Int) ≤ k := by omega
      clear key c0 c1' c2 c3 c4 e4
      have HXK := hid hxk
      clear hxk hxm
      go_upto_region 5 with fail
      generalize hW : World.alloc wr _ = W1
      have BT : Hd (Blk W1 wr.heap.size #[.int .i64 x.t, .int .i64 x.n, .int .i64 x.f, .int .i64 x.g, .slice ab x.d.length cb] 59) := hid (by rw [← hW]; exact blk_new _ _ _)
      have kW : Keeps (fun _ => False) wr W1 := by rw [← hW]; exact keeps_alloc _ _ _
      have KW := hid kW
      clear hW f0 f1 f2 f3 f4
      have t4 : W1.cell? ⟨wr.heap.size, 4, none⟩ = some (.slice ab x.d.length cb) := blk_cell BT.out 4
      go_wp2_with fail
      refine (CloneB_any _ _ x.d _ (SD.out.keep KW.out (fun _ _ _ h => h)) HDK.out).mono ?_
      rintro e w2 ⟨a2, n2, c2, rfl, hn2, ho2, hk2⟩
      have S2 := hid (own_sl ho2 hn2)
      have HN2 : Hd (n2 = x.d.length) := hid (by rw [hn2, u8s_length])
      have KR : Hd (Keeps (fun _ => False) wr w2) := hid (KW.out.trans hk2)
      have zr := KW.out.size
      clear hn2 ho2 hk2 kW t4
      have HO2 := hid (HO.out.keep KR.out (fun _ _ _ h => h))
      have g4 : w2.frozen? ⟨g, k * 5 + 4, none⟩ = false := HO2.out.1.frozenAt _
      have h4 : w2.cell? ⟨g, k * 5 + 4, none⟩ = some (xs.getD (k * 5 + 4) undef) := by
        rw [HO2.out.1.cellAt (k * 5 + 4) (by omega), List.getD, List.getElem?_eq_getElem (by omega)]; rfl
      have HST := hid (HO2.out.1.stored (k * 5 + 4) (.slice a2 n2 c2))
      go_wp2
      go_roundw
      case rel =>
        have kst : Keeps (fun b => b = g) w2 (w2.setCell ⟨g, k * 5 + 4, none⟩ (.slice a2 n2 c2)) := keeps_set _ _ _ _ rfl
        refine ⟨k + 1, xs.set (k * 5 + 4) (.slice a2 n2 c2), by go_num, by omega, hid ⟨HST.out.1, fun _ h => h⟩, hid (fun i y hi => ?_), hid ((K0.out.trans KR.out).setCell (.inr hgw) _)⟩
        have hil : i < m := by
          have := (List.getElem?_eq_some_iff.1 hi).1; rw [HLL.out] at this; exact this
        have gne : ∀ b, (Value.slice (some ⟨g, 0, none⟩) m c1).ownBlock ≠ some b → b ≠ g := fun b h e => h (by subst e; rfl)
        by_cases hik : i = k
        · subst hik
          obtain rfl : x = y := Option.some.inj (HXK.out.symm.trans hi)
          obtain ⟨d0, d1, d2, d3, d4⟩ := HIC.out i x hi
          have sg : ∀ j, j < 4 → (xs.set (i * 5 + 4) (.slice a2 n2 c2)).getD (i * 5 + j) undef = xs.getD (i * 5 + j) undef := fun j hj => by rw [set_getD (by omega), if_neg (by omega)]
          refine ⟨(sg 0 (by omega)).trans d0, (sg 1 (by omega)).trans d1, (sg 2 (by omega)).trans d2, (sg 3 (by omega)).trans d3, ?_⟩
          · show Sl _ _ ((xs.set (i * 5 + 4) (.slice a2 n2 c2)).getD (i * 5 + 4) undef) _
            rw [set_getD (by omega), if_pos rfl]
            exact (S2.out.mono (K' := fun b => W1.heap.size ≤ b) (fun b _ h => h)).keep kst (fun b _ h1 h2 => by omega) |>.mono (fun b _ h => ⟨fun hb => by injection hb with hb; simp at hb; omega, fun _ => by omega⟩)
        · have hd1 := (((HIC.out i y hi).keep KR.out (fun _ _ _ h => h)).keep kst (fun b _ h1 h2 => gne b h1.1 h2)).mono (K' := fun b => (Value.slice (some ⟨g, 0, none⟩) m c1).ownBlock ≠ some b ∧ (i < k + 1 → w.heap.size ≤ b)) (fun b _ h => ⟨h.1, fun hlt => h.2 (by omega)⟩)
          obtain ⟨d0, d1, d2, d3, d4⟩ := hd1
          have sg : ∀ j, j < 5 → (xs.set (k * 5 + 4) (.slice a2 n2 c2)).getD (i * 5 + j) undef = xs.getD (i * 5 + j) undef := fun j hj => by rw [set_getD (by omega), if_neg (by omega)]
          refine ⟨(sg 0 (by omega)).trans d0, (sg 1 (by omega)).trans d1, (sg 2 (by omega)).trans d2, (sg 3 (by omega)).trans d3, ?_⟩
          simp only [sg 4 (by omega)]; exact d4
      case measure => simp [intOf]; omega
    · have hkn : k = m := by omega
      subst hkn
      have HR : Hd (OwnPost w l (.returned (.slice a1 k c1)) wr) := hid ⟨a1, c1, by rw [HLL.out], ⟨xs, by rw [HLL.out]; exact HO.out, by rw [HLL.out]; exact HOB.out, fun i x hi => by
        have hil : i < k := by
          have := (List.getElem?_eq_some_iff.1 hi).1; rw [HLL.out] at this; exact this
        rw [HLL.out]
        exact (HIC.out i x hi).mono (fun b _ h => ⟨h.2 hil, h.1⟩)⟩, K0.out⟩
      go_wp2
      go_ret
      exact HR.out
end Go.Proofs.Ytjapmpolagblaaa
