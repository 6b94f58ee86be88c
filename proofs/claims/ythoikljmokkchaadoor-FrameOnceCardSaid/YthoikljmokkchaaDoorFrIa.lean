/- Frame: Emit's ways without a frame, and the worlds of the last way. -/
import Derived.Test.YthoikljmokkchaaDoorFrH
import Derived.Deep.DrawnRows
namespace Go.Proofs.YthoikljmokkchaaDoor
open Go.RowKit
attribute [local go_sem ↓] Go.wp_at_zero Go.wp_at_succ
set_option maxRecDepth 100000 in set_option maxHeartbeats 1000000 in
theorem Emit_neg (ba : Option Addr) (n bc : Nat) (ac : Int) (k : Nat) (i seq : Int) (w : World) (hn : n ≤ 9223372036854775807) (h : seq < 0) :
    Calls Tryd.prog 39 #[.agg #[.slice ba n bc, .int .i64 ac, .int .u64 (k : Int), .int .i64 i], .int .i64 seq] w fun e w' => e = .returned (.tuple #[.agg #[.int .i64 0, .int .i64 0, .bool false, .slice none 0 0, .int .u64 0], .agg #[.slice none 0 0, .int .i64 0, .int .u64 0, .int .i64 0], .int .i64 5]) ∧ Keeps (fun _ => False) w w' := by
  go_enter Tryd.func39, Tryd.ntmps39
  go_upto_region 1 with fail
  generalize hW : World.alloc (World.alloc (World.alloc w _) _) _ = W1
  have KS : Hd (Keeps (fun _ => False) w W1) := hid (by rw [← hW]; exact (Keeps.alloc (Keeps.alloc (Keeps.alloc (Keeps.refl (fun _ => False) w) _) _) _))
  have BS : Hd (Blk W1 w.heap.size #[(.slice ba n bc), (.int .i64 ac), (.int .u64 (k : Int)), (.int .i64 i)] 57) := hid (by rw [← hW]; exact (blk_alloc (blk_alloc (blk_new _ _ _) _) _))
  have BR1 : Hd (Blk W1 (w.heap.size + 1) #[(.int .i64 0), (.int .i64 0), (.bool false), (.slice none 0 0), (.int .u64 0)] 25) := hid (by rw [← hW]; exact (blk_alloc (blk_new' _ _ _ _ (by simp)) _))
  have BR2 : Hd (Blk W1 (w.heap.size + 1 + 1) #[(.slice none 0 0), (.int .i64 0), (.int .u64 0), (.int .i64 0)] 57) := hid (by rw [← hW]; exact (blk_new' _ _ _ _ (by simp)))
  have HK : Hd (Keeps (fun _ => False) w W1) := hid KS.out
  have z_W1 : w.heap.size + 3 ≤ W1.heap.size := by rw [← hW]; simp
  clear hW KS
  generalize hb_BR2 : w.heap.size + 1 + 1 = b_BR2 at *
  generalize hb_BR1 : w.heap.size + 1 = b_BR1 at *
  have o_BS_0 : W1.cell? ⟨w.heap.size, 0, none⟩ = some ((.slice ba n bc)) := blk_cell BS.out 0
  have o_BS_1 : W1.cell? ⟨w.heap.size, 1, none⟩ = some ((.int .i64 ac)) := blk_cell BS.out 1
  have o_BR1_0 : W1.cell? ⟨b_BR1, 0, none⟩ = some ((.int .i64 0)) := blk_cell BR1.out 0
  have o_BR1_1 : W1.cell? ⟨b_BR1, 1, none⟩ = some ((.int .i64 0)) := blk_cell BR1.out 1
  have o_BR1_2 : W1.cell? ⟨b_BR1, 2, none⟩ = some ((.bool false)) := blk_cell BR1.out 2
  have o_BR1_3 : W1.cell? ⟨b_BR1, 3, none⟩ = some ((.slice none 0 0)) := blk_cell BR1.out 3
  have o_BR1_4 : W1.cell? ⟨b_BR1, 4, none⟩ = some ((.int .u64 0)) := blk_cell BR1.out 4
  have o_BR2_0 : W1.cell? ⟨b_BR2, 0, none⟩ = some ((.slice none 0 0)) := blk_cell BR2.out 0
  have o_BR2_1 : W1.cell? ⟨b_BR2, 1, none⟩ = some ((.int .i64 0)) := blk_cell BR2.out 1
  have o_BR2_2 : W1.cell? ⟨b_BR2, 2, none⟩ = some ((.int .u64 0)) := blk_cell BR2.out 2
  have o_BR2_3 : W1.cell? ⟨b_BR2, 3, none⟩ = some ((.int .i64 0)) := blk_cell BR2.out 3
  have f_BR1_0 : W1.frozen? ⟨b_BR1, 0, none⟩ = false := blk_free BR1.out 0
  have f_BR1_1 : W1.frozen? ⟨b_BR1, 1, none⟩ = false := blk_free BR1.out 1
  have f_BR1_2 : W1.frozen? ⟨b_BR1, 2, none⟩ = false := blk_free BR1.out 2
  have f_BR1_3 : W1.frozen? ⟨b_BR1, 3, none⟩ = false := blk_free BR1.out 3
  have f_BR1_4 : W1.frozen? ⟨b_BR1, 4, none⟩ = false := blk_free BR1.out 4
  have f_BR2_0 : W1.frozen? ⟨b_BR2, 0, none⟩ = false := blk_free BR2.out 0
  have f_BR2_1 : W1.frozen? ⟨b_BR2, 1, none⟩ = false := blk_free BR2.out 1
  have f_BR2_2 : W1.frozen? ⟨b_BR2, 2, none⟩ = false := blk_free BR2.out 2
  have f_BR2_3 : W1.frozen? ⟨b_BR2, 3, none⟩ = false := blk_free BR2.out 3
  go_wp2
  clear o_BS_0 o_BS_1 o_BR1_0 o_BR1_1 o_BR1_2 o_BR1_3 o_BR1_4 o_BR2_0 o_BR2_1 o_BR2_2 o_BR2_3 f_BR1_0 f_BR1_1 f_BR1_2 f_BR1_3 f_BR1_4 f_BR2_0 f_BR2_1 f_BR2_2 f_BR2_3
  have k1 := keep5 W1 b_BR1 (.int .i64 0) (.int .i64 0) (.bool false) (.slice none 0 0) (.int .u64 0)
  have B1 := blkset5 BR1.out (u0 := (.int .i64 0)) (u1 := (.int .i64 0)) (u2 := (.bool false)) (u3 := (.slice none 0 0)) (u4 := (.int .u64 0))
  have B2' := blk_keep BR2.out k1 (fun h => by omega)
  have B2 := blkset4 B2' (u0 := (.slice none 0 0)) (u1 := (.int .i64 0)) (u2 := (.int .u64 0)) (u3 := (.int .i64 0))
  have B1' := blk_keep B1 (keep4 _ b_BR2 (.slice none 0 0) (.int .i64 0) (.int .u64 0) (.int .i64 0)) (fun h => by omega)
  have r0 := blk_cell B1' 0
  have r1 := blk_cell B1' 1
  have r2 := blk_cell B1' 2
  have r3 := blk_cell B1' 3
  have r4 := blk_cell B1' 4
  have s0 := blk_cell B2 0
  have s1 := blk_cell B2 1
  have s2 := blk_cell B2 2
  have s3 := blk_cell B2 3
  refine bodyPost_ret (v := .tuple #[.agg #[.int .i64 0, .int .i64 0, .bool false, .slice none 0 0, .int .u64 0], .agg #[.slice none 0 0, .int .i64 0, .int .u64 0, .int .i64 0], .int .i64 5]) (by simp [results, Tryd.results39, go_sem, r0, r1, r2, r3, r4, s0, s1, s2, s3]) rfl ?_
  exact ⟨rfl, (HK.out.trans' k1 (fun b hb h => by omega)).trans' (keep4 _ b_BR2 (.slice none 0 0) (.int .i64 0) (.int .u64 0) (.int .i64 0)) (fun b hb h => by omega)⟩
set_option maxRecDepth 100000 in set_option maxHeartbeats 1000000 in
theorem Emit_big (ba : Option Addr) (n bc : Nat) (ac : Int) (k : Nat) (i seq : Int) (w : World) (hn : n ≤ 9223372036854775807) (h0 : 0 ≤ seq) (h : (n : Int) ≤ seq) :
    Calls Tryd.prog 39 #[.agg #[.slice ba n bc, .int .i64 ac, .int .u64 (k : Int), .int .i64 i], .int .i64 seq] w fun e w' => e = .returned (.tuple #[.agg #[.int .i64 0, .int .i64 0, .bool false, .slice none 0 0, .int .u64 0], .agg #[.slice none 0 0, .int .i64 0, .int .u64 0, .int .i64 0], .int .i64 5]) ∧ Keeps (fun _ => False) w w' := by
  go_enter Tryd.func39, Tryd.ntmps39
  go_upto_region 1 with fail
  generalize hW : World.alloc (World.alloc (World.alloc w _) _) _ = W1
  have KS : Hd (Keeps (fun _ => False) w W1) := hid (by rw [← hW]; exact (Keeps.alloc (Keeps.alloc (Keeps.alloc (Keeps.refl (fun _ => False) w) _) _) _))
  have BS : Hd (Blk W1 w.heap.size #[(.slice ba n bc), (.int .i64 ac), (.int .u64 (k : Int)), (.int .i64 i)] 57) := hid (by rw [← hW]; exact (blk_alloc (blk_alloc (blk_new _ _ _) _) _))
  have BR1 : Hd (Blk W1 (w.heap.size + 1) #[(.int .i64 0), (.int .i64 0), (.bool false), (.slice none 0 0), (.int .u64 0)] 25) := hid (by rw [← hW]; exact (blk_alloc (blk_new' _ _ _ _ (by simp)) _))
  have BR2 : Hd (Blk W1 (w.heap.size + 1 + 1) #[(.slice none 0 0), (.int .i64 0), (.int .u64 0), (.int .i64 0)] 57) := hid (by rw [← hW]; exact (blk_new' _ _ _ _ (by simp)))
  have HK : Hd (Keeps (fun _ => False) w W1) := hid KS.out
  have z_W1 : w.heap.size + 3 ≤ W1.heap.size := by rw [← hW]; simp
  clear hW KS
  generalize hb_BR2 : w.heap.size + 1 + 1 = b_BR2 at *
  generalize hb_BR1 : w.heap.size + 1 = b_BR1 at *
  have o_BS_0 : W1.cell? ⟨w.heap.size, 0, none⟩ = some ((.slice ba n bc)) := blk_cell BS.out 0
  have o_BS_1 : W1.cell? ⟨w.heap.size, 1, none⟩ = some ((.int .i64 ac)) := blk_cell BS.out 1
  have o_BR1_0 : W1.cell? ⟨b_BR1, 0, none⟩ = some ((.int .i64 0)) := blk_cell BR1.out 0
  have o_BR1_1 : W1.cell? ⟨b_BR1, 1, none⟩ = some ((.int .i64 0)) := blk_cell BR1.out 1
  have o_BR1_2 : W1.cell? ⟨b_BR1, 2, none⟩ = some ((.bool false)) := blk_cell BR1.out 2
  have o_BR1_3 : W1.cell? ⟨b_BR1, 3, none⟩ = some ((.slice none 0 0)) := blk_cell BR1.out 3
  have o_BR1_4 : W1.cell? ⟨b_BR1, 4, none⟩ = some ((.int .u64 0)) := blk_cell BR1.out 4
  have o_BR2_0 : W1.cell? ⟨b_BR2, 0, none⟩ = some ((.slice none 0 0)) := blk_cell BR2.out 0
  have o_BR2_1 : W1.cell? ⟨b_BR2, 1, none⟩ = some ((.int .i64 0)) := blk_cell BR2.out 1
  have o_BR2_2 : W1.cell? ⟨b_BR2, 2, none⟩ = some ((.int .u64 0)) := blk_cell BR2.out 2
  have o_BR2_3 : W1.cell? ⟨b_BR2, 3, none⟩ = some ((.int .i64 0)) := blk_cell BR2.out 3
  have f_BR1_0 : W1.frozen? ⟨b_BR1, 0, none⟩ = false := blk_free BR1.out 0
  have f_BR1_1 : W1.frozen? ⟨b_BR1, 1, none⟩ = false := blk_free BR1.out 1
  have f_BR1_2 : W1.frozen? ⟨b_BR1, 2, none⟩ = false := blk_free BR1.out 2
  have f_BR1_3 : W1.frozen? ⟨b_BR1, 3, none⟩ = false := blk_free BR1.out 3
  have f_BR1_4 : W1.frozen? ⟨b_BR1, 4, none⟩ = false := blk_free BR1.out 4
  have f_BR2_0 : W1.frozen? ⟨b_BR2, 0, none⟩ = false := blk_free BR2.out 0
  have f_BR2_1 : W1.frozen? ⟨b_BR2, 1, none⟩ = false := blk_free BR2.out 1
  have f_BR2_2 : W1.frozen? ⟨b_BR2, 2, none⟩ = false := blk_free BR2.out 2
  have f_BR2_3 : W1.frozen? ⟨b_BR2, 3, none⟩ = false := blk_free BR2.out 3
  go_wp2
  clear o_BS_0 o_BS_1 o_BR1_0 o_BR1_1 o_BR1_2 o_BR1_3 o_BR1_4 o_BR2_0 o_BR2_1 o_BR2_2 o_BR2_3 f_BR1_0 f_BR1_1 f_BR1_2 f_BR1_3 f_BR1_4 f_BR2_0 f_BR2_1 f_BR2_2 f_BR2_3
  have k1 := keep5 W1 b_BR1 (.int .i64 0) (.int .i64 0) (.bool false) (.slice none 0 0) (.int .u64 0)
  have B1 := blkset5 BR1.out (u0 := (.int .i64 0)) (u1 := (.int .i64 0)) (u2 := (.bool false)) (u3 := (.slice none 0 0)) (u4 := (.int .u64 0))
  have B2' := blk_keep BR2.out k1 (fun h => by omega)
  have B2 := blkset4 B2' (u0 := (.slice none 0 0)) (u1 := (.int .i64 0)) (u2 := (.int .u64 0)) (u3 := (.int .i64 0))
  have B1' := blk_keep B1 (keep4 _ b_BR2 (.slice none 0 0) (.int .i64 0) (.int .u64 0) (.int .i64 0)) (fun h => by omega)
  have r0 := blk_cell B1' 0
  have r1 := blk_cell B1' 1
  have r2 := blk_cell B1' 2
  have r3 := blk_cell B1' 3
  have r4 := blk_cell B1' 4
  have s0 := blk_cell B2 0
  have s1 := blk_cell B2 1
  have s2 := blk_cell B2 2
  have s3 := blk_cell B2 3
  refine bodyPost_ret (v := .tuple #[.agg #[.int .i64 0, .int .i64 0, .bool false, .slice none 0 0, .int .u64 0], .agg #[.slice none 0 0, .int .i64 0, .int .u64 0, .int .i64 0], .int .i64 5]) (by simp [results, Tryd.results39, go_sem, r0, r1, r2, r3, r4, s0, s1, s2, s3]) rfl ?_
  exact ⟨rfl, (HK.out.trans' k1 (fun b hb h => by omega)).trans' (keep4 _ b_BR2 (.slice none 0 0) (.int .i64 0) (.int .u64 0) (.int .i64 0)) (fun b hb h => by omega)⟩
set_option maxRecDepth 100000 in set_option maxHeartbeats 1000000 in
theorem Emit_old (ba : Option Addr) (n bc : Nat) (ac : Int) (k : Nat) (i seq : Int) (w : World) (hn : n ≤ 9223372036854775807) (h0 : 0 ≤ seq) (h : seq < (n : Int)) (h2 : seq < ac) :
    Calls Tryd.prog 39 #[.agg #[.slice ba n bc, .int .i64 ac, .int .u64 (k : Int), .int .i64 i], .int .i64 seq] w fun e w' => e = .returned (.tuple #[.agg #[.int .i64 0, .int .i64 0, .bool false, .slice none 0 0, .int .u64 0], .agg #[.slice none 0 0, .int .i64 0, .int .u64 0, .int .i64 0], .int .i64 32]) ∧ Keeps (fun _ => False) w w' := by
  go_enter Tryd.func39, Tryd.ntmps39
  go_upto_region 1 with fail
  generalize hW : World.alloc (World.alloc (World.alloc w _) _) _ = W1
  have KS : Hd (Keeps (fun _ => False) w W1) := hid (by rw [← hW]; exact (Keeps.alloc (Keeps.alloc (Keeps.alloc (Keeps.refl (fun _ => False) w) _) _) _))
  have BS : Hd (Blk W1 w.heap.size #[(.slice ba n bc), (.int .i64 ac), (.int .u64 (k : Int)), (.int .i64 i)] 57) := hid (by rw [← hW]; exact (blk_alloc (blk_alloc (blk_new _ _ _) _) _))
  have BR1 : Hd (Blk W1 (w.heap.size + 1) #[(.int .i64 0), (.int .i64 0), (.bool false), (.slice none 0 0), (.int .u64 0)] 25) := hid (by rw [← hW]; exact (blk_alloc (blk_new' _ _ _ _ (by simp)) _))
  have BR2 : Hd (Blk W1 (w.heap.size + 1 + 1) #[(.slice none 0 0), (.int .i64 0), (.int .u64 0), (.int .i64 0)] 57) := hid (by rw [← hW]; exact (blk_new' _ _ _ _ (by simp)))
  have HK : Hd (Keeps (fun _ => False) w W1) := hid KS.out
  have z_W1 : w.heap.size + 3 ≤ W1.heap.size := by rw [← hW]; simp
  clear hW KS
  generalize hb_BR2 : w.heap.size + 1 + 1 = b_BR2 at *
  generalize hb_BR1 : w.heap.size + 1 = b_BR1 at *
  have o_BS_0 : W1.cell? ⟨w.heap.size, 0, none⟩ = some ((.slice ba n bc)) := blk_cell BS.out 0
  have o_BS_1 : W1.cell? ⟨w.heap.size, 1, none⟩ = some ((.int .i64 ac)) := blk_cell BS.out 1
  have o_BR1_0 : W1.cell? ⟨b_BR1, 0, none⟩ = some ((.int .i64 0)) := blk_cell BR1.out 0
  have o_BR1_1 : W1.cell? ⟨b_BR1, 1, none⟩ = some ((.int .i64 0)) := blk_cell BR1.out 1
  have o_BR1_2 : W1.cell? ⟨b_BR1, 2, none⟩ = some ((.bool false)) := blk_cell BR1.out 2
  have o_BR1_3 : W1.cell? ⟨b_BR1, 3, none⟩ = some ((.slice none 0 0)) := blk_cell BR1.out 3
  have o_BR1_4 : W1.cell? ⟨b_BR1, 4, none⟩ = some ((.int .u64 0)) := blk_cell BR1.out 4
  have o_BR2_0 : W1.cell? ⟨b_BR2, 0, none⟩ = some ((.slice none 0 0)) := blk_cell BR2.out 0
  have o_BR2_1 : W1.cell? ⟨b_BR2, 1, none⟩ = some ((.int .i64 0)) := blk_cell BR2.out 1
  have o_BR2_2 : W1.cell? ⟨b_BR2, 2, none⟩ = some ((.int .u64 0)) := blk_cell BR2.out 2
  have o_BR2_3 : W1.cell? ⟨b_BR2, 3, none⟩ = some ((.int .i64 0)) := blk_cell BR2.out 3
  have f_BR1_0 : W1.frozen? ⟨b_BR1, 0, none⟩ = false := blk_free BR1.out 0
  have f_BR1_1 : W1.frozen? ⟨b_BR1, 1, none⟩ = false := blk_free BR1.out 1
  have f_BR1_2 : W1.frozen? ⟨b_BR1, 2, none⟩ = false := blk_free BR1.out 2
  have f_BR1_3 : W1.frozen? ⟨b_BR1, 3, none⟩ = false := blk_free BR1.out 3
  have f_BR1_4 : W1.frozen? ⟨b_BR1, 4, none⟩ = false := blk_free BR1.out 4
  have f_BR2_0 : W1.frozen? ⟨b_BR2, 0, none⟩ = false := blk_free BR2.out 0
  have f_BR2_1 : W1.frozen? ⟨b_BR2, 1, none⟩ = false := blk_free BR2.out 1
  have f_BR2_2 : W1.frozen? ⟨b_BR2, 2, none⟩ = false := blk_free BR2.out 2
  have f_BR2_3 : W1.frozen? ⟨b_BR2, 3, none⟩ = false := blk_free BR2.out 3
  go_wp2
  clear o_BS_0 o_BS_1 o_BR1_0 o_BR1_1 o_BR1_2 o_BR1_3 o_BR1_4 o_BR2_0 o_BR2_1 o_BR2_2 o_BR2_3 f_BR1_0 f_BR1_1 f_BR1_2 f_BR1_3 f_BR1_4 f_BR2_0 f_BR2_1 f_BR2_2 f_BR2_3
  have k1 := keep5 W1 b_BR1 (.int .i64 0) (.int .i64 0) (.bool false) (.slice none 0 0) (.int .u64 0)
  have B1 := blkset5 BR1.out (u0 := (.int .i64 0)) (u1 := (.int .i64 0)) (u2 := (.bool false)) (u3 := (.slice none 0 0)) (u4 := (.int .u64 0))
  have B2' := blk_keep BR2.out k1 (fun h => by omega)
  have B2 := blkset4 B2' (u0 := (.slice none 0 0)) (u1 := (.int .i64 0)) (u2 := (.int .u64 0)) (u3 := (.int .i64 0))
  have B1' := blk_keep B1 (keep4 _ b_BR2 (.slice none 0 0) (.int .i64 0) (.int .u64 0) (.int .i64 0)) (fun h => by omega)
  have r0 := blk_cell B1' 0
  have r1 := blk_cell B1' 1
  have r2 := blk_cell B1' 2
  have r3 := blk_cell B1' 3
  have r4 := blk_cell B1' 4
  have s0 := blk_cell B2 0
  have s1 := blk_cell B2 1
  have s2 := blk_cell B2 2
  have s3 := blk_cell B2 3
  refine bodyPost_ret (v := .tuple #[.agg #[.int .i64 0, .int .i64 0, .bool false, .slice none 0 0, .int .u64 0], .agg #[.slice none 0 0, .int .i64 0, .int .u64 0, .int .i64 0], .int .i64 32]) (by simp [results, Tryd.results39, go_sem, r0, r1, r2, r3, r4, s0, s1, s2, s3]) rfl ?_
  exact ⟨rfl, (HK.out.trans' k1 (fun b hb h => by omega)).trans' (keep4 _ b_BR2 (.slice none 0 0) (.int .i64 0) (.int .u64 0) (.int .i64 0)) (fun b hb h => by omega)⟩
set_option maxRecDepth 100000 in set_option maxHeartbeats 1000000 in
theorem Emit_far (ba : Option Addr) (n bc : Nat) (ac : Int) (k : Nat) (i seq : Int) (w : World) (hn : n ≤ 9223372036854775807) (h0 : 0 ≤ seq) (h : seq < (n : Int)) (h2 : ac ≤ seq) (ha : 0 ≤ ac) (ha2 : ac ≤ 1000000000000) (h3 : ac + 16 ≤ seq) :
    Calls Tryd.prog 39 #[.agg #[.slice ba n bc, .int .i64 ac, .int .u64 (k : Int), .int .i64 i], .int .i64 seq] w fun e w' => e = .returned (.tuple #[.agg #[.int .i64 0, .int .i64 0, .bool false, .slice none 0 0, .int .u64 0], .agg #[.slice none 0 0, .int .i64 0, .int .u64 0, .int .i64 0], .int .i64 32]) ∧ Keeps (fun _ => False) w w' := by
  have hw : IntKind.i64.wrap (ac + 16) = ac + 16 := IntWalk.i64_in _ (by omega)
  go_enter Tryd.func39, Tryd.ntmps39
  go_upto_region 1 with fail
  generalize hW : World.alloc (World.alloc (World.alloc w _) _) _ = W1
  have KS : Hd (Keeps (fun _ => False) w W1) := hid (by rw [← hW]; exact (Keeps.alloc (Keeps.alloc (Keeps.alloc (Keeps.refl (fun _ => False) w) _) _) _))
  have BS : Hd (Blk W1 w.heap.size #[(.slice ba n bc), (.int .i64 ac), (.int .u64 (k : Int)), (.int .i64 i)] 57) := hid (by rw [← hW]; exact (blk_alloc (blk_alloc (blk_new _ _ _) _) _))
  have BR1 : Hd (Blk W1 (w.heap.size + 1) #[(.int .i64 0), (.int .i64 0), (.bool false), (.slice none 0 0), (.int .u64 0)] 25) := hid (by rw [← hW]; exact (blk_alloc (blk_new' _ _ _ _ (by simp)) _))
  have BR2 : Hd (Blk W1 (w.heap.size + 1 + 1) #[(.slice none 0 0), (.int .i64 0), (.int .u64 0), (.int .i64 0)] 57) := hid (by rw [← hW]; exact (blk_new' _ _ _ _ (by simp)))
  have HK : Hd (Keeps (fun _ => False) w W1) := hid KS.out
  have z_W1 : w.heap.size + 3 ≤ W1.heap.size := by rw [← hW]; simp
  clear hW KS
  generalize hb_BR2 : w.heap.size + 1 + 1 = b_BR2 at *
  generalize hb_BR1 : w.heap.size + 1 = b_BR1 at *
  have o_BS_0 : W1.cell? ⟨w.heap.size, 0, none⟩ = some ((.slice ba n bc)) := blk_cell BS.out 0
  have o_BS_1 : W1.cell? ⟨w.heap.size, 1, none⟩ = some ((.int .i64 ac)) := blk_cell BS.out 1
  have o_BR1_0 : W1.cell? ⟨b_BR1, 0, none⟩ = some ((.int .i64 0)) := blk_cell BR1.out 0
  have o_BR1_1 : W1.cell? ⟨b_BR1, 1, none⟩ = some ((.int .i64 0)) := blk_cell BR1.out 1
  have o_BR1_2 : W1.cell? ⟨b_BR1, 2, none⟩ = some ((.bool false)) := blk_cell BR1.out 2
  have o_BR1_3 : W1.cell? ⟨b_BR1, 3, none⟩ = some ((.slice none 0 0)) := blk_cell BR1.out 3
  have o_BR1_4 : W1.cell? ⟨b_BR1, 4, none⟩ = some ((.int .u64 0)) := blk_cell BR1.out 4
  have o_BR2_0 : W1.cell? ⟨b_BR2, 0, none⟩ = some ((.slice none 0 0)) := blk_cell BR2.out 0
  have o_BR2_1 : W1.cell? ⟨b_BR2, 1, none⟩ = some ((.int .i64 0)) := blk_cell BR2.out 1
  have o_BR2_2 : W1.cell? ⟨b_BR2, 2, none⟩ = some ((.int .u64 0)) := blk_cell BR2.out 2
  have o_BR2_3 : W1.cell? ⟨b_BR2, 3, none⟩ = some ((.int .i64 0)) := blk_cell BR2.out 3
  have f_BR1_0 : W1.frozen? ⟨b_BR1, 0, none⟩ = false := blk_free BR1.out 0
  have f_BR1_1 : W1.frozen? ⟨b_BR1, 1, none⟩ = false := blk_free BR1.out 1
  have f_BR1_2 : W1.frozen? ⟨b_BR1, 2, none⟩ = false := blk_free BR1.out 2
  have f_BR1_3 : W1.frozen? ⟨b_BR1, 3, none⟩ = false := blk_free BR1.out 3
  have f_BR1_4 : W1.frozen? ⟨b_BR1, 4, none⟩ = false := blk_free BR1.out 4
  have f_BR2_0 : W1.frozen? ⟨b_BR2, 0, none⟩ = false := blk_free BR2.out 0
  have f_BR2_1 : W1.frozen? ⟨b_BR2, 1, none⟩ = false := blk_free BR2.out 1
  have f_BR2_2 : W1.frozen? ⟨b_BR2, 2, none⟩ = false := blk_free BR2.out 2
  have f_BR2_3 : W1.frozen? ⟨b_BR2, 3, none⟩ = false := blk_free BR2.out 3
  go_wp2
  clear o_BS_0 o_BS_1 o_BR1_0 o_BR1_1 o_BR1_2 o_BR1_3 o_BR1_4 o_BR2_0 o_BR2_1 o_BR2_2 o_BR2_3 f_BR1_0 f_BR1_1 f_BR1_2 f_BR1_3 f_BR1_4 f_BR2_0 f_BR2_1 f_BR2_2 f_BR2_3
  have k1 := keep5 W1 b_BR1 (.int .i64 0) (.int .i64 0) (.bool false) (.slice none 0 0) (.int .u64 0)
  have B1 := blkset5 BR1.out (u0 := (.int .i64 0)) (u1 := (.int .i64 0)) (u2 := (.bool false)) (u3 := (.slice none 0 0)) (u4 := (.int .u64 0))
  have B2' := blk_keep BR2.out k1 (fun h => by omega)
  have B2 := blkset4 B2' (u0 := (.slice none 0 0)) (u1 := (.int .i64 0)) (u2 := (.int .u64 0)) (u3 := (.int .i64 0))
  have B1' := blk_keep B1 (keep4 _ b_BR2 (.slice none 0 0) (.int .i64 0) (.int .u64 0) (.int .i64 0)) (fun h => by omega)
  have r0 := blk_cell B1' 0
  have r1 := blk_cell B1' 1
  have r2 := blk_cell B1' 2
  have r3 := blk_cell B1' 3
  have r4 := blk_cell B1' 4
  have s0 := blk_cell B2 0
  have s1 := blk_cell B2 1
  have s2 := blk_cell B2 2
  have s3 := blk_cell B2 3
  refine bodyPost_ret (v := .tuple #[.agg #[.int .i64 0, .int .i64 0, .bool false, .slice none 0 0, .int .u64 0], .agg #[.slice none 0 0, .int .i64 0, .int .u64 0, .int .i64 0], .int .i64 32]) (by simp [results, Tryd.results39, go_sem, r0, r1, r2, r3, r4, s0, s1, s2, s3]) rfl ?_
  exact ⟨rfl, (HK.out.trans' k1 (fun b hb h => by omega)).trans' (keep4 _ b_BR2 (.slice none 0 0) (.int .i64 0) (.int .u64 0) (.int .i64 0)) (fun b hb h => by omega)⟩
theorem sl_new {Y w : World} {v : Value} {xs : List Value} (h : Sl (fun k => Y.heap.size ≤ k) w v xs) (B : Nat) (hB : B ≤ Y.heap.size) : B ≤ Y.heap.size ∧ ∀ X, Keeps (fun b => b < Y.heap.size ∨ w.heap.size ≤ b) w X → Sl (fun b => Y.heap.size ≤ b ∧ b < w.heap.size) X v xs :=
  ⟨hB, fun X hx => (h.mono (K' := fun b => Y.heap.size ≤ b ∧ b < w.heap.size) (fun b hb hh => ⟨hh, hb⟩)).keep hx (fun b _ h1 h2 => by omega)⟩
structure EmFin (W3 wy X : World) (bS c : Nat) (F : Array Value) (TF : TypeId) (N : Array Value) (TS : TypeId) : Prop where
  f : Blk X c F TF
  s : Blk X bS N TS
  k : Keeps (fun i => i = bS) W3 X
  k1 : Keeps (fun i => i = bS ∨ i = c ∨ wy.heap.size ≤ i) wy X
theorem emA {W3 wy : World} {bS c : Nat} {TF TS : TypeId} {z0 z1 z2 z3 z4 f0 f1 f2 f3 f4 o0 o1 o2 o3 n0 n1 n2 n3 : Value} (h : Keeps (fun _ => False) W3 wy) (hS : Blk wy bS #[o0, o1, o2, o3] TS) (hF : Blk wy c #[z0, z1, z2, z3, z4] TF) (hne : c ≠ bS) (hle : W3.heap.size ≤ c) :
    EmFin W3 wy (((((((((wy.setCell ⟨c, 0, none⟩ f0).setCell ⟨c, 1, none⟩ f1).setCell ⟨c, 2, none⟩ f2).setCell ⟨c, 3, none⟩ f3).setCell ⟨c, 4, none⟩ f4).setCell ⟨bS, 0, none⟩ n0).setCell ⟨bS, 1, none⟩ n1).setCell ⟨bS, 2, none⟩ n2).setCell ⟨bS, 3, none⟩ n3) bS c #[f0, f1, f2, f3, f4] TF #[n0, n1, n2, n3] TS := by
  have kF := keep5 wy c f0 f1 f2 f3 f4
  have kS := keep4 (((((wy.setCell ⟨c, 0, none⟩ f0).setCell ⟨c, 1, none⟩ f1).setCell ⟨c, 2, none⟩ f2).setCell ⟨c, 3, none⟩ f3).setCell ⟨c, 4, none⟩ f4) bS n0 n1 n2 n3
  exact ⟨blk_keep (blkset5 hF) kS (fun h => hne h), blkset4 (blk_keep hS kF (fun h => hne h.symm)), ((h.mono (fun _ _ h => h.elim)).trans' kF (fun i hi h => by omega)).trans' kS (fun _ _ h => h), (kF.mono (fun _ _ h => .inr (.inl h))).trans (kS.mono (fun _ _ h => .inl h))⟩
theorem emB {W3 wy : World} {bS c : Nat} {TF TS : TypeId} {z0 z1 z2 z3 z4 f0 f1 f2 f3 f4 o0 o1 o2 o3 n0 n1 n2 n3 : Value} (h : Keeps (fun _ => False) W3 wy) (hS : Blk wy bS #[o0, o1, o2, o3] TS) (hF : Blk wy c #[z0, z1, z2, z3, z4] TF) (hne : c ≠ bS) (hle : W3.heap.size ≤ c) :
    EmFin W3 wy (((((((((wy.setCell ⟨bS, 0, none⟩ n0).setCell ⟨bS, 1, none⟩ n1).setCell ⟨bS, 2, none⟩ n2).setCell ⟨bS, 3, none⟩ n3).setCell ⟨c, 0, none⟩ f0).setCell ⟨c, 1, none⟩ f1).setCell ⟨c, 2, none⟩ f2).setCell ⟨c, 3, none⟩ f3).setCell ⟨c, 4, none⟩ f4) bS c #[f0, f1, f2, f3, f4] TF #[n0, n1, n2, n3] TS := by
  have kS := keep4 wy bS n0 n1 n2 n3
  have kF := keep5 ((((wy.setCell ⟨bS, 0, none⟩ n0).setCell ⟨bS, 1, none⟩ n1).setCell ⟨bS, 2, none⟩ n2).setCell ⟨bS, 3, none⟩ n3) c f0 f1 f2 f3 f4
  exact ⟨blkset5 (blk_keep hF kS (fun h => hne h)), blk_keep (blkset4 hS) kF (fun h => hne h.symm), ((h.mono (fun _ _ h => h.elim)).trans' kS (fun _ _ h => h)).trans' kF (fun i hi h => by omega), (kS.mono (fun _ _ h => .inl h)).trans (kF.mono (fun _ _ h => .inr (.inl h)))⟩
theorem emC {W3 wy : World} {bS : Nat} {TF TS : TypeId} {f0 f1 f2 f3 f4 o0 o1 o2 o3 n0 n1 n2 n3 : Value} (h : Keeps (fun _ => False) W3 wy) (hS : Blk wy bS #[o0, o1, o2, o3] TS) (hb : bS < W3.heap.size) :
    EmFin W3 wy (((((wy.alloc (.cells #[f0, f1, f2, f3, f4] TF)).setCell ⟨bS, 0, none⟩ n0).setCell ⟨bS, 1, none⟩ n1).setCell ⟨bS, 2, none⟩ n2).setCell ⟨bS, 3, none⟩ n3) bS wy.heap.size #[f0, f1, f2, f3, f4] TF #[n0, n1, n2, n3] TS := by
  have hz := h.size
  have kA := keeps_alloc (fun _ => False) wy (.cells #[f0, f1, f2, f3, f4] TF)
  have kS := keep4 (wy.alloc (.cells #[f0, f1, f2, f3, f4] TF)) bS n0 n1 n2 n3
  exact ⟨blk_keep (blk_new wy _ _) kS (fun h => by omega), blkset4 (blk_alloc hS _), ((h.trans kA).mono (fun _ _ h => h.elim)).trans' kS (fun _ _ h => h), (kA.mono (fun _ _ h => h.elim)).trans' kS (fun _ _ h => .inl h)⟩
theorem emD {W3 wy : World} {bS : Nat} {TF TS : TypeId} {f0 f1 f2 f3 f4 o0 o1 o2 o3 n0 n1 n2 n3 : Value} (h : Keeps (fun _ => False) W3 wy) (hS : Blk wy bS #[o0, o1, o2, o3] TS) (hb : bS < W3.heap.size) :
    EmFin W3 wy (((((wy.setCell ⟨bS, 0, none⟩ n0).setCell ⟨bS, 1, none⟩ n1).setCell ⟨bS, 2, none⟩ n2).setCell ⟨bS, 3, none⟩ n3).alloc (.cells #[f0, f1, f2, f3, f4] TF)) bS wy.heap.size #[f0, f1, f2, f3, f4] TF #[n0, n1, n2, n3] TS := by
  have hz := h.size
  have kS := keep4 wy bS n0 n1 n2 n3
  have kA := keeps_alloc (fun i => i = bS) ((((wy.setCell ⟨bS, 0, none⟩ n0).setCell ⟨bS, 1, none⟩ n1).setCell ⟨bS, 2, none⟩ n2).setCell ⟨bS, 3, none⟩ n3) (.cells #[f0, f1, f2, f3, f4] TF)
  exact ⟨blk_new' _ _ _ _ (by simp), blk_alloc (blkset4 hS) _, ((h.mono (fun _ _ h => h.elim)).trans' kS (fun _ _ h => h)).trans kA, (kS.trans kA).mono (fun _ _ h => .inl h)⟩
theorem emE {W3 wy : World} {bS : Nat} {TF TS : TypeId} {z0 z1 z2 z3 z4 f0 f1 f2 f3 f4 o0 o1 o2 o3 n0 n1 n2 n3 : Value} (h : Keeps (fun _ => False) W3 wy) (hS : Blk wy bS #[o0, o1, o2, o3] TS) (hb : bS < W3.heap.size) :
    EmFin W3 wy ((((((((((wy.alloc (.cells #[z0, z1, z2, z3, z4] TF)).setCell ⟨bS, 0, none⟩ n0).setCell ⟨bS, 1, none⟩ n1).setCell ⟨bS, 2, none⟩ n2).setCell ⟨bS, 3, none⟩ n3).setCell ⟨wy.heap.size, 0, none⟩ f0).setCell ⟨wy.heap.size, 1, none⟩ f1).setCell ⟨wy.heap.size, 2, none⟩ f2).setCell ⟨wy.heap.size, 3, none⟩ f3).setCell ⟨wy.heap.size, 4, none⟩ f4) bS wy.heap.size #[f0, f1, f2, f3, f4] TF #[n0, n1, n2, n3] TS := by
  have hz := h.size
  have kA := keeps_alloc (fun _ => False) wy (.cells #[z0, z1, z2, z3, z4] TF)
  have e := emB (h.trans kA) (blk_alloc hS _) (blk_new wy _ _) (show wy.heap.size ≠ bS by omega) hz (f0 := f0) (f1 := f1) (f2 := f2) (f3 := f3) (f4 := f4) (n0 := n0) (n1 := n1) (n2 := n2) (n3 := n3)
  exact ⟨e.f, e.s, e.k, (kA.mono (fun _ _ h => h.elim)).trans' e.k1 (fun i hi h => by rcases h with h | h | h; exact .inl h; exact .inr (.inl h); (simp at h; omega))⟩
end Go.Proofs.YthoikljmokkchaaDoor
