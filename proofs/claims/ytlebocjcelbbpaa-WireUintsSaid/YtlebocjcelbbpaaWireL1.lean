/- The walk of WireUints. -/
import Derived.Test.YtlebocjcelbbpaaWireV
import Derived.Test.YtlebocjcelbbpaaWireI
namespace Go.Proofs.Ytlebocjcelbbpaa
open Go.RowKit

set_option maxRecDepth 100000 in set_option maxHeartbeats 1000000 in
theorem wireUints_any (v : Value) (b : List Nat) (w : World) (hv : Sl (fun k => k < w.heap.size) w v (u8s b)) (hm : b.length ≤ 140737488351232) (hb : ∀ c ∈ b, c < 256) :
    Calls Try.prog 3 #[v] w fun e w' => e = .returned (.bool true) ∧ Keeps (fun _ => False) w w' := by
  have HV := hid hv; have HM := hid hm; have HB := hid hb
  obtain ⟨a, cap, rfl, _, _, _⟩ := hv.bytes
  clear hv hb hm
  generalize hbl : b.length = n at *
  have HBL := hid hbl; clear hbl
  go_enter Try.func3, Try.ntmps3
  go_wp2_with fail
  refine (NewReader_any _ _ b _ HV.out (by rw [HBL.out]; exact HM.out) HB.out).mono ?_
  rintro e w1 ⟨px, rfl, h1, h2, h3⟩
  have X1 := hid h1; have K1 := hid h3; have V1 := hid (HV.out.keep h3 (fun _ _ _ h => h)); have zx := h1.lt
  clear h1 h3
  go_wp2_with fail
  refine (NewReader_any _ _ b _ V1.out (by rw [HBL.out]; exact HM.out) HB.out).mono ?_
  rintro e w2 ⟨py, rfl, h1, h3, h4⟩
  have Y2 := hid h1; have K2 := hid (K1.out.trans h4); have V2 := hid (V1.out.keep h4 (fun _ _ _ h => h)); have X2 := hid (X1.out.keep h4 (fun h => h) (fun _ _ _ h => h)); have zy := h1.lt
  clear h1 h4 X1 K1 V1
  go_wp2_with fail
  refine (RUint_any _ px (0, b) _ X2.out).mono ?_
  rintro e w3 ⟨rfl, h1, h4⟩
  have X3 := hid h1; have K3 := hid (K2.out.after (h4.mono (fun i _ h => by omega))); have V3 := hid (V2.out.keep h4 (fun i _ h => by omega)); have Y3 := hid (Y2.out.keep h4 (by omega) (fun i _ h => by omega)); have z3 := h4.size
  clear h1 h4 X2 K2 V2 Y2
  go_wp2_with fail
  refine (RInt_any _ py (0, b) _ Y3.out).mono ?_
  rintro e w4 ⟨rfl, h1, h4⟩
  have Y4 := hid h1; have K4 := hid (K3.out.after (h4.mono (fun i _ h => by omega))); have V4 := hid (V3.out.keep h4 (fun i _ h => by omega)); have X4 := hid (X3.out.keep h4 (by omega) (fun i _ h => by omega)); have z4 := h4.size
  clear h1 h4 X3 K3 V3 Y3
  go_wp2_with fail
  refine (VUint_any (fun k => k < w.heap.size) _ (0, b) _ ⟨_, b, rfl, V4.out, by rw [HBL.out]; exact HM.out, HB.out, fun _ => rfl⟩).mono ?_
  rintro e w5 ⟨v5, rfl, h1, h4⟩
  have R5 := hid h1; have K5 := hid (K4.out.trans h4); have V5 := hid (V4.out.keep h4 (fun _ _ _ h => h)); have X5 := hid (X4.out.keep h4 (fun h => h) (fun _ _ _ h => h)); have Y5 := hid (Y4.out.keep h4 (fun h => h) (fun _ _ _ h => h))
  obtain ⟨a5, n5, c5, rfl⟩ := rv_form h1
  clear h1 h4 K4 V4 X4 Y4
  have hsi : (sI (0, b)) = ((sU (0, b)).1, zag (sU (0, b)).2) := rfl
  rw [hsi] at Y5
  have HSI := hid hsi; clear hsi
  generalize hu : (sU (0, b)).2 = u at *
  have HU := hid hu; clear hu
  generalize ht : (sU (0, b)).1 = t at *
  have HT := hid ht; clear ht
  go_wp2_with fail
  have k6 := keeps_alloc (fun _ => False) w5 (.cells #[.slice a5 n5 c5, .int .i64 t.1] 30)
  have BR := blk_new w5 #[.slice a5 n5 c5, .int .i64 t.1] 30
  refine (VInt_any (fun k => k < w.heap.size) _ (0, b) _ ⟨_, b, rfl, V5.out.keep k6 (fun _ _ _ h => h), by rw [HBL.out]; exact HM.out, HB.out, fun _ => rfl⟩).mono ?_
  rintro e w6 ⟨v6, rfl, h1, h4⟩
  have k7 := k6.trans h4
  have K6 := hid (K5.out.trans k7); have X6 := hid (X5.out.keep k7 (fun h => h) (fun _ _ _ h => h)); have Y6 := hid (Y5.out.keep k7 (fun h => h) (fun _ _ _ h => h)); have R6 := hid (R5.out.keep k7 (fun _ _ _ h => h))
  have BR6 := hid (blk_keep BR h4 (fun h => h))
  obtain ⟨a6, n6, c6, rfl⟩ := rv_form h1
  clear h1 h4 k6 k7 K5 V5 X5 Y5 R5 BR
  have hsi : (sI (0, b)).1 = t := by rw [HSI.out]
  rw [hsi]
  clear hsi
  have hz : w5.heap.size < w6.heap.size := blk_lt BR6.out
  go_wp2_with fail
  generalize hW : World.alloc w6 _ = W
  have k7 : Keeps (fun _ => False) w6 W := by rw [← hW]; exact keeps_alloc _ _ _
  have K7 := hid (K6.out.trans k7); have X7 := hid (X6.out.keep k7 (fun h => h) (fun _ _ _ h => h)); have Y7 := hid (Y6.out.keep k7 (fun h => h) (fun _ _ _ h => h)); have R7 := hid (R6.out.keep k7 (fun _ _ _ h => h))
  have BR7 := hid (blk_keep BR6.out k7 (fun h => h))
  clear hW k7 K6 X6 Y6 R6 BR6
  generalize (sI (0, b)).2 = i at *
  have f0 : ∀ x : Ext W, x.w.cell? ⟨w5.heap.size, 0, none⟩ = some (.slice a5 n5 c5) := ext_cell (blk_cell BR7.out 0)
  have f1 : ∀ x : Ext W, x.w.cell? ⟨w5.heap.size, 1, none⟩ = some (.int .i64 t.1) := ext_cell (blk_cell BR7.out 1)
  refine wp_region_ext (by kernel_rfl) (by kernel_rfl) ?_
  repeat (go_big_quiet_step (first
    | (go_at_call 18; first | exact ext_same (RErr_any _ _ _ _ (X7.out.keep (Ext.k _) (fun h => h) (fun _ _ _ h => h))) | exact ext_same (RErr_any _ _ _ _ (Y7.out.keep (Ext.k _) (fun h => h) (fun _ _ _ h => h))))
    | (go_at_call 19; exact ext_drawn (REnd_any _ _ _ _ (X7.out.keep (Ext.k _) (fun h => h) (fun _ _ _ h => h))))
    | (go_at_call 20; exact ext_call (VEnd_any _ _ _ _ (R7.out.keep (Ext.k _) (fun _ _ _ h => h))))
    | (go_at_call 21; exact ext_call (lives_any _))))
  refine wpQuiet_nil ?_
  rintro _ ⟨x, rfl⟩
  go_wp2
  go_ret
  exact ⟨rfl, K7.out.trans x.k⟩
end Go.Proofs.Ytlebocjcelbbpaa
