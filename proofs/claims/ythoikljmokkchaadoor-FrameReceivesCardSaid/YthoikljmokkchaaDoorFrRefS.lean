/- Frames: FrSA, FrSB: walks and plain facts. -/
import Derived.Test.YthoikljmokkchaaDoorFrT
import Derived.Test.YthoikljmokkchaaDoorFrManyX
import Derived.Test.YthoikljmokkchaaDoorFrTwo
import Derived.Test.YthoikljmokkchaaDoorFrSem
import Derived.Test.YthoikljmokkchaaDoorFrPlain
import Derived.Deep.DrawnRows
import Derived.Test.YthoikljmokkchaaDoorFrRun
import Derived.Test.YthoikljmokkchaaDoorFrU
import Derived.Test.YthoikljmokkchaaDoorFrZ
namespace Go.Proofs.YthoikljmokkchaaDoor
open Go.RowKit
attribute [local go_sem ↓] Go.wp_at_zero Go.wp_at_succ
theorem RNewReceiver_any (k : Nat) (w : World) : Calls Tryd.prog 20 #[.int .u64 (k : Int)] w fun e w' => e = .returned (.agg #[(.int .i64 0), (.slice none 0 0), (.bool false), (.int .u64 (k : Int)), (.int .i64 0)]) ∧ Keeps (fun _ => False) w w' := by
  go_enter Tryd.func20, Tryd.ntmps20
  go_upto_region 1 with fail
  generalize hW : World.alloc w _ = W1
  have KS : Hd (Keeps (fun _ => False) w W1) := hid (by rw [← hW]; exact (Keeps.alloc (Keeps.refl (fun _ => False) w) _))
  have BR : Hd (Blk W1 w.heap.size #[(.int .i64 0), (.slice none 0 0), (.bool false), (.int .u64 0), (.int .i64 0)] 35) := hid (by rw [← hW]; exact (blk_new _ _ _))
  have HK : Hd (Keeps (fun _ => False) w W1) := hid KS.out
  have z_W1 : w.heap.size + 1 ≤ W1.heap.size := by rw [← hW]; simp
  clear hW KS
  have o_BR_0 : W1.cell? ⟨w.heap.size, 0, none⟩ = some ((.int .i64 0)) := blk_cell BR.out 0
  have o_BR_1 : W1.cell? ⟨w.heap.size, 1, none⟩ = some ((.slice none 0 0)) := blk_cell BR.out 1
  have o_BR_2 : W1.cell? ⟨w.heap.size, 2, none⟩ = some ((.bool false)) := blk_cell BR.out 2
  have o_BR_3 : W1.cell? ⟨w.heap.size, 3, none⟩ = some ((.int .u64 0)) := blk_cell BR.out 3
  have o_BR_4 : W1.cell? ⟨w.heap.size, 4, none⟩ = some ((.int .i64 0)) := blk_cell BR.out 4
  have f_BR_0 : W1.frozen? ⟨w.heap.size, 0, none⟩ = false := blk_free BR.out 0
  have f_BR_1 : W1.frozen? ⟨w.heap.size, 1, none⟩ = false := blk_free BR.out 1
  have f_BR_2 : W1.frozen? ⟨w.heap.size, 2, none⟩ = false := blk_free BR.out 2
  have f_BR_3 : W1.frozen? ⟨w.heap.size, 3, none⟩ = false := blk_free BR.out 3
  have f_BR_4 : W1.frozen? ⟨w.heap.size, 4, none⟩ = false := blk_free BR.out 4
  go_wp2
  clear o_BR_0 o_BR_1 o_BR_2 o_BR_3 o_BR_4 f_BR_0 f_BR_1 f_BR_2 f_BR_3 f_BR_4
  obtain ⟨HV2, B3⟩ := fin5 HK.out (show w.heap.size ≤ w.heap.size by omega) BR.out (.int .i64 0) (.slice none 0 0) (.bool false) (.int .u64 (k : Int)) (.int .i64 0)
  have r0 := blk_cell B3 0
  have r1 := blk_cell B3 1
  have r2 := blk_cell B3 2
  have r3 := blk_cell B3 3
  have r4 := blk_cell B3 4
  refine bodyPost_ret (v := .agg #[(.int .i64 0), (.slice none 0 0), (.bool false), (.int .u64 (k : Int)), (.int .i64 0)]) (by simp [results, Tryd.results20, go_sem, r0, r1, r2, r3, r4]) rfl ?_
  exact ⟨rfl, HV2⟩
end Go.Proofs.YthoikljmokkchaaDoor
namespace Go.Proofs.YthoikljmokkchaaDoor
open Go.RowKit Go.Shelf
attribute [local go_sem ↓] Go.wp_at_zero Go.wp_at_succ
end Go.Proofs.YthoikljmokkchaaDoor
