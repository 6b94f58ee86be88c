/- The walk of WireSlices. -/
import Derived.Test.YtlebocjcelbbpaaWireV
import Derived.Test.YtlebocjcelbbpaaWireI
namespace Go.Proofs.Ytlebocjcelbbpaa
open Go.RowKit

theorem sameB_true {K1 K2 : Nat → Prop} {v1 v2 : Value} {l : List Nat} {w : World} (h1 : Sl K1 w v1 (u8s l)) (h2 : Sl K2 w v2 (u8s l)) (hm : l.length ≤ 1000000000) :
    Calls Try.prog 22 #[v1, v2] w fun e w' => e = .returned (.bool true) ∧ Drawn w w' := by
  have h := SameBytes_any K1 K2 v1 v2 l l w h1 h2 hm
  rw [decide_eq_true rfl] at h
  exact h
theorem sameI_true {K1 K2 : Nat → Prop} {v1 v2 : Value} {l : List Int} {w : World} (h1 : Sl K1 w v1 (i64s l)) (h2 : Sl K2 w v2 (i64s l)) (hm : l.length ≤ 1000000000) :
    Calls Try.prog 30 #[v1, v2] w fun e w' => e = .returned (.bool true) ∧ Drawn w w' := by
  have h := SameInts_any K1 K2 v1 v2 l l w h1 h2 hm
  rw [decide_eq_true rfl] at h
  exact h
theorem sB_len (most : Int) (s : St) : (sB most s).2.length ≤ s.2.length := by
  have h := sSize_rest most s
  unfold sB
  split
  · split
    · simp
    · simp only [List.length_take]; omega
  · simp
theorem sLoop_len (n : Nat) : ∀ (s : St) (acc : List Int), s.1 = 0 → (sLoop n s acc).1.1 = 0 → (sLoop n s acc).2.length + (sLoop n s acc).1.2.length ≤ acc.length + s.2.length := by
  induction n with
  | zero => intro s acc _ _; simp [sLoop]
  | succ n ih =>
    intro s acc h0 h
    rw [sLoop_one h0] at h ⊢
    by_cases h1 : (sI s).1.1 = 0
    · have h2 := ih (sI s).1 (acc ++ [(sI s).2]) h1 h
      have h3 := sI_rest h0 h1
      simp only [List.length_append, List.length_singleton] at h2
      omega
    · rw [sLoop_err h1] at h; exact absurd h h1
theorem sL_len (most : Int) (s : St) : (sL most s).2.length ≤ s.2.length := by
  unfold sL
  split
  · rename_i h
    unfold sLs at *
    have h0 : (sSize most s).1.1 = 0 := by
      apply Classical.byContradiction
      intro hn
      rw [sLoop_err hn] at h
      exact hn h
    have h1 := sLoop_len (sSize most s).2 (sSize most s).1 [] h0 h
    have h2 := sSize_rest most s
    simp only [List.length_nil] at h1
    omega
  · simp
set_option maxRecDepth 100000 in set_option maxHeartbeats 1000000 in
theorem wireSlices_any (v : Value) (b : List Nat) (most : Int) (w : World) (hv : Sl (fun k => k < w.heap.size) w v (u8s b)) (hm : b.length ≤ 100000000) (hb : ∀ c ∈ b, c < 256) (hmo : most ≤ 9223372036854775807) :
    Calls Try.prog 6 #[v, .int .i64 most] w fun e w' => e = .returned (.bool true) ∧ Keeps (fun _ => False) w w' := by
  have HV := hid hv; have HM := hid hm; have HB := hid hb; have HMO := hid hmo
  obtain ⟨a, cap, rfl, _, _, _⟩ := hv.bytes
  clear hv hb hm hmo
  generalize hbl : b.length = n at *
  have HBL := hid hbl; clear hbl
  have hml : Hd (b.length ≤ 140737488351232) := hid (by rw [HBL.out]; have := HM.out; omega)
  go_enter Try.func6, Try.ntmps6
  go_wp2_with fail
  refine (NewReader_any _ _ b _ HV.out hml.out HB.out).mono ?_
  rintro e w1 ⟨px, rfl, h1, h2, h3⟩
  have X1 := hid h1; have K1 := hid h3; have V1 := hid (HV.out.keep h3 (fun _ _ _ h => h)); have zx := h1.lt
  clear h1 h3
  go_wp2_with fail
  refine (NewReader_any _ _ b _ V1.out hml.out HB.out).mono ?_
  rintro e w2 ⟨py, rfl, h1, h3, h4⟩
  have Y2 := hid h1; have K2 := hid (K1.out.trans h4); have V2 := hid (V1.out.keep h4 (fun _ _ _ h => h)); have X2 := hid (X1.out.keep h4 (fun h => h) (fun _ _ _ h => h)); have zy := h1.lt
  clear h1 h4 X1 K1 V1
  go_wp2_with fail
  refine (RBytes_any _ px most (0, b) _ X2.out HMO.out).mono ?_
  rintro e w3 ⟨ap, np, cp, rfl, hn, ho, h1, h4⟩
  have P3 : Hd (Sl (fun k => w2.heap.size ≤ k) w3 (.slice ap np cp) (u8s (sB most (0, b)).2)) := hid (row_sl ho.row (by rw [u8s_length]; exact hn.symm))
  have X3 := hid h1; have K3 := hid (K2.out.after (h4.mono (fun i _ h => by omega))); have V3 := hid (V2.out.keep h4 (fun i _ h => by omega)); have Y3 := hid (Y2.out.keep h4 (by omega) (fun i _ h => by omega)); have z3 := h4.size
  clear h1 h4 X2 K2 V2 Y2 hn ho
  go_wp2_with fail
  refine (RInts_any _ py most (0, b) _ Y3.out HMO.out (by show b.length ≤ 1000000000000; have := HM.out; have := HBL.out; omega)).mono ?_
  rintro e w4 ⟨aq, nq, cq, rfl, hn, ho, h1, h4⟩
  have Q4 : Hd (Sl (fun k => w3.heap.size ≤ k) w4 (.slice aq nq cq) (i64s (sL most (0, b)).2)) := hid (row_sl ho.row (by rw [i64s_length]; exact hn.symm))
  have Y4 := hid h1; have K4 := hid (K3.out.after (h4.mono (fun i _ h => by omega))); have V4 := hid (V3.out.keep h4 (fun i _ h => by omega)); have X4 := hid (X3.out.keep h4 (by omega) (fun i _ h => by omega)); have P4 := hid (P3.out.keep h4 (fun i _ h => by omega)); have z4 := h4.size
  clear h1 h4 X3 K3 V3 Y3 P3 hn ho
  go_wp2_with fail
  refine (VBytes_any (fun k => k < w.heap.size) _ most (0, b) _ ⟨_, b, rfl, V4.out, hml.out, HB.out, fun _ => rfl⟩ HMO.out).mono ?_
  rintro e w5 ⟨v5, av, nv, cv, rfl, hn, hs, h1, h4⟩
  have VV5 := hid hs
  have R5 := hid h1; have K5 := hid (K4.out.trans h4); have V5 := hid (V4.out.keep h4 (fun _ _ _ h => h)); have X5 := hid (X4.out.keep h4 (fun h => h) (fun _ _ _ h => h)); have Y5 := hid (Y4.out.keep h4 (fun h => h) (fun _ _ _ h => h)); have P5 := hid (P4.out.keep h4 (fun _ _ _ h => h)); have Q5 := hid (Q4.out.keep h4 (fun _ _ _ h => h))
  obtain ⟨a5, n5, c5, rfl⟩ := rv_form h1
  clear h1 h4 K4 V4 X4 Y4 P4 Q4 hn hs
  go_wp2_with fail
  have k6 := keeps_alloc (fun _ => False) w5 (.cells #[.slice a5 n5 c5, .int .i64 (sB most (0, b)).1.1] 30)
  have BR := blk_new w5 #[.slice a5 n5 c5, .int .i64 (sB most (0, b)).1.1] 30
  refine (VInts_any (fun k => k < w.heap.size) _ most (0, b) _ ⟨_, b, rfl, V5.out.keep k6 (fun _ _ _ h => h), hml.out, HB.out, fun _ => rfl⟩ HMO.out (by show b.length ≤ 1000000000000; have := HM.out; have := HBL.out; omega)).mono ?_
  rintro e w6 ⟨v6, aw, nw, cw, rfl, hn, hs, h1, h4⟩
  have WW6 := hid hs
  have k7 := k6.trans h4
  have S6 := hid h1; have K6 := hid (K5.out.trans k7); have X6 := hid (X5.out.keep k7 (fun h => h) (fun _ _ _ h => h)); have Y6 := hid (Y5.out.keep k7 (fun h => h) (fun _ _ _ h => h)); have R6 := hid (R5.out.keep k7 (fun _ _ _ h => h)); have P6 := hid (P5.out.keep k7 (fun _ _ _ h => h)); have Q6 := hid (Q5.out.keep k7 (fun _ _ _ h => h)); have VV6 := hid (VV5.out.keep k7 (fun _ _ _ h => h))
  have BR6 := hid (blk_keep BR h4 (fun h => h))
  obtain ⟨a6, n6, c6, rfl⟩ := rv_form h1
  clear h1 h4 k6 k7 K5 V5 X5 Y5 R5 BR P5 Q5 VV5 hn hs
  have hz : w5.heap.size < w6.heap.size := blk_lt BR6.out
  have hlB : Hd ((sB most (0, b)).2.length ≤ 1000000000) := hid (by have h : (sB most (0, b)).2.length ≤ b.length := sB_len most (0, b); have := HM.out; have := HBL.out; omega)
  have hlL : Hd ((sL most (0, b)).2.length ≤ 1000000000) := hid (by have h : (sL most (0, b)).2.length ≤ b.length := sL_len most (0, b); have := HM.out; have := HBL.out; omega)
  generalize sB most (0, b) = tB at *
  generalize sL most (0, b) = tL at *
  go_wp2_with fail
  generalize hW : World.alloc w6 _ = W
  have k7 : Keeps (fun _ => False) w6 W := by rw [← hW]; exact keeps_alloc _ _ _
  have BS7 : Hd (Blk W w6.heap.size #[.slice a6 n6 c6, .int .i64 tL.1.1] 30) := hid (by rw [← hW]; exact blk_new _ _ _)
  have K7 := hid (K6.out.trans k7); have X7 := hid (X6.out.keep k7 (fun h => h) (fun _ _ _ h => h)); have Y7 := hid (Y6.out.keep k7 (fun h => h) (fun _ _ _ h => h)); have R7 := hid (R6.out.keep k7 (fun _ _ _ h => h)); have S7 := hid (S6.out.keep k7 (fun _ _ _ h => h)); have P7 := hid (P6.out.keep k7 (fun _ _ _ h => h)); have Q7 := hid (Q6.out.keep k7 (fun _ _ _ h => h)); have VV7 := hid (VV6.out.keep k7 (fun _ _ _ h => h)); have WW7 := hid (WW6.out.keep k7 (fun _ _ _ h => h))
  have BR7 := hid (blk_keep BR6.out k7 (fun h => h))
  clear hW k7 K6 X6 Y6 R6 BR6 S6 P6 Q6 VV6 WW6
  have f0 : ∀ x : Ext W, x.w.cell? ⟨w5.heap.size, 0, none⟩ = some (.slice a5 n5 c5) := ext_cell (blk_cell BR7.out 0)
  have f1 : ∀ x : Ext W, x.w.cell? ⟨w5.heap.size, 1, none⟩ = some (.int .i64 tB.1.1) := ext_cell (blk_cell BR7.out 1)
  have f2 : ∀ x : Ext W, x.w.cell? ⟨w6.heap.size, 0, none⟩ = some (.slice a6 n6 c6) := ext_cell (blk_cell BS7.out 0)
  have f3 : ∀ x : Ext W, x.w.cell? ⟨w6.heap.size, 1, none⟩ = some (.int .i64 tL.1.1) := ext_cell (blk_cell BS7.out 1)
  refine wp_region_ext (by kernel_rfl) (by kernel_rfl) ?_
  repeat (go_big_quiet_step (first
    | (go_at_call 22; exact ext_drawn (sameB_true (P7.out.keep (Ext.k _) (fun _ _ _ h => h)) (VV7.out.keep (Ext.k _) (fun _ _ _ h => h)) hlB.out))
    | (go_at_call 30; exact ext_drawn (sameI_true (Q7.out.keep (Ext.k _) (fun _ _ _ h => h)) (WW7.out.keep (Ext.k _) (fun _ _ _ h => h)) hlL.out))
    | (go_at_call 19; first | exact ext_drawn (REnd_any _ _ _ _ (X7.out.keep (Ext.k _) (fun h => h) (fun _ _ _ h => h))) | exact ext_drawn (REnd_any _ _ _ _ (Y7.out.keep (Ext.k _) (fun h => h) (fun _ _ _ h => h))))
    | (go_at_call 20; first | exact ext_call (VEnd_any _ _ _ _ (R7.out.keep (Ext.k _) (fun _ _ _ h => h))) | exact ext_call (VEnd_any _ _ _ _ (S7.out.keep (Ext.k _) (fun _ _ _ h => h))))
    | (go_at_call 21; exact ext_call (lives_any _))))
  refine wpQuiet_nil ?_
  rintro _ ⟨x, rfl⟩
  go_wp2
  go_ret
  exact ⟨rfl, K7.out.trans x.k⟩
end Go.Proofs.Ytlebocjcelbbpaa
