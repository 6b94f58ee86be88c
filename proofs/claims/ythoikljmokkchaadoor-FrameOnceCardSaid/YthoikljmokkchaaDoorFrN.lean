/- Frame: keep$1, slices.IndexFunc over frames. -/
import Derived.Test.YthoikljmokkchaaDoorFrM
namespace Go.Proofs.YthoikljmokkchaaDoor
open Go.RowKit
def IdxF (l : List Fr) (q : Int) (w : World) (r : Ending) (w' : World) : Prop := ((∃ (k : Nat) (x : Fr), r = .returned (.int .i64 k) ∧ k < l.length ∧ l[k]? = some x ∧ q ≤ x.q ∧ ∀ i y, i < k → l[i]? = some y → y.q < q) ∨ (r = .returned (.int .i64 (-1)) ∧ ∀ i y, i < l.length → l[i]? = some y → y.q < q)) ∧ Keeps (fun _ => False) w w'
set_option maxRecDepth 100000 in
set_option maxHeartbeats 1000000 in
theorem Keep1_any (xq xk : Int) (xu : Bool) (bv : Value) (xt : Nat) (p : Nat) (q : Int) (w : World) (hp : w.cell? ⟨p, 0, none⟩ = some (.int .i64 q)) (hb : ∃ a n c, bv = .slice a n c) :
    Calls Tryd.prog 105 #[.agg #[.int .i64 xq, .int .i64 xk, .bool xu, bv, .int .u64 (xt : Int)], .pointer (some ⟨p, 0, none⟩)] w fun e w' => e = .returned (.bool (decide (q ≤ xq))) ∧ Keeps (fun _ => False) w w' := by
  obtain ⟨a, n, c, rfl⟩ := hb
  go_enter Tryd.func105, Tryd.ntmps105
  go_upto_region 1 with fail
  generalize hW : World.alloc w _ = W
  have BX : Hd (Blk W w.heap.size #[.int .i64 xq, .int .i64 xk, .bool xu, .slice a n c, .int .u64 (xt : Int)] 25) := hid (by rw [← hW]; exact blk_new _ _ _)
  have KW : Hd (Keeps (fun _ => False) w W) := hid (by rw [← hW]; exact keeps_alloc _ _ _)
  clear hW
  have o0 : W.cell? ⟨w.heap.size, 0, none⟩ = some (.int .i64 xq) := blk_cell BX.out 0
  have o1 : W.cell? ⟨p, 0, none⟩ = some (.int .i64 q) := keep_cell KW.out (fun h => h) hp
  clear hp
  go_wp2
  go_ret
  exact ⟨by first | rfl | simp, KW.out⟩
set_option maxRecDepth 100000 in
set_option maxHeartbeats 1000000 in
theorem IndexF_any (K : Nat → Prop) (a : Option Addr) (c : Nat) (l : List Fr) (p : Nat) (q : Int) (w : World) (hl : Frs K w (.slice a l.length c) l) (hp : w.cell? ⟨p, 0, none⟩ = some (.int .i64 q)) (hm : l.length ≤ 1000000) :
    Calls Tryd.prog 104 #[.slice a l.length c, .func (.func 105) #[] #[.pointer (some ⟨p, 0, none⟩)]] w fun e w' => IdxF l q w e w' := by
  have HL := hid hl; have HP := hid hp
  clear hl hp
  generalize hll : l.length = m at *
  have HLL := hid hll; clear hll
  go_enter Tryd.func104, Tryd.ntmps104
  go_wp2_with fail
  go_loopw [8] (fun i wr => ∃ k : Nat, i = .int .i64 k ∧ k ≤ m ∧ Hd (∀ i y, i < k → l[i]? = some y → y.q < q) ∧ Hd (Keeps (fun _ => False) w wr)) (fun i _ => m - (intOf i).toNat)
  case atStart => exact ⟨0, rfl, Nat.zero_le _, hid (fun i y hi => by omega), hid (Keeps.refl _ _)⟩
  case round =>
    obtain ⟨k, rfl, hk, HBE, HD⟩ := hrel
    by_cases hkm : k < m
    · obtain ⟨b, off, rfl, hb1, hb2, hc⟩ := frs_cells HL.out (by rw [HLL.out]; omega)
      clear HL
      obtain ⟨y, hy⟩ : ∃ y, l[k]? = some y := ⟨l[k]'(by rw [HLL.out]; exact hkm), List.getElem?_eq_getElem _⟩
      obtain ⟨e0, e1, e2, e4, ad, cd, e3, -⟩ := hc k y hy
      have HXK := hid hy
      have f0 := keep_cell HD.out (fun h => h) e0
      have f1 := keep_cell HD.out (fun h => h) e1
      have f2 := keep_cell HD.out (fun h => h) e2
      have f3 := keep_cell HD.out (fun h => h) e3
      have f4 := keep_cell HD.out (fun h => h) e4
      have k1 : (k : Int) < m := by omega
      have k2 : (0 : Int) ≤ k := by omega
      clear e0 e1 e2 e3 e4 hy hc
      go_wp2_with fail
      refine (Keep1_any y.q _ _ _ _ p q _ (keep_cell HD.out (fun h => h) HP.out) ⟨_, _, _, rfl⟩).mono ?_
      rintro e w2 ⟨rfl, hk2⟩
      have K2 := hid (HD.out.trans hk2)
      clear hk2
      by_cases e1 : q ≤ y.q
      · have HR : Hd (IdxF l q w (.returned (.int .i64 k)) w2) := hid ⟨.inl ⟨k, y, rfl, by rw [HLL.out]; exact hkm, HXK.out, e1, HBE.out⟩, K2.out⟩
        rw [decide_eq_true e1]
        clear e1
        go_wp2
        go_ret
        exact HR.out
      · have d1 : y.q < q := by omega
        rw [decide_eq_false e1]
        clear e1
        go_wp2
        go_roundw
        case rel =>
          refine ⟨k + 1, by go_num, by omega, hid (fun i y' hi hy' => ?_), K2⟩
          rcases Nat.lt_or_ge i k with h | h
          · exact HBE.out i y' h hy'
          · obtain rfl : i = k := by omega
            rw [HXK.out] at hy'; injection hy' with hy'; subst hy'
            exact d1
        case measure => simp [intOf]; omega
    · have hkm2 : k = m := by omega
      have HR : Hd (IdxF l q w (.returned (.int .i64 (-1))) wr) := hid ⟨.inr ⟨rfl, fun i y hi hy => HBE.out i y (by rw [HLL.out] at hi; omega) hy⟩, HD.out⟩
      have k0 : ¬ ((k : Int) < m) := by omega
      clear hkm hkm2
      go_wp2
      go_ret
      exact HR.out
end Go.Proofs.YthoikljmokkchaaDoor
