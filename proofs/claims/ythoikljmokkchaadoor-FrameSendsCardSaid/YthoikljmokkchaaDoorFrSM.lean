/- Frame: equal frames, receivers and senders are the same. -/
import Derived.Test.YthoikljmokkchaaDoorFrU
import Derived.Test.YthoikljmokkchaaDoorFrRcv
import Derived.Deep.DrawnRows
namespace Go.Proofs.YthoikljmokkchaaDoor
open Go.RowKit
attribute [local go_sem ↓] Go.wp_at_zero Go.wp_at_succ
set_option maxRecDepth 100000 in
set_option maxHeartbeats 2000000 in
theorem SameFrame_true (f : Fr) (a1 a2 : Option Addr) (c1 c2 : Nat) (K1 K2 : Nat → Prop) (w : World) (h1 : Sl K1 w (.slice a1 f.b.length c1) (u8s f.b)) (h2 : Sl K2 w (.slice a2 f.b.length c2) (u8s f.b)) (hb : ∀ c ∈ f.b, c < 256) :
    Calls Tryd.prog 41 #[.agg #[.int .i64 f.q, .int .i64 f.k, .bool f.u, .slice a1 f.b.length c1, .int .u64 (f.t : Int)], .agg #[.int .i64 f.q, .int .i64 f.k, .bool f.u, .slice a2 f.b.length c2, .int .u64 (f.t : Int)]] w fun e w' => e = .returned (.bool true) ∧ Keeps (fun _ => False) w w' := by
  have H1 := hid (h1.mono (K' := fun _ => True) (fun _ _ _ => trivial)); have H2 := hid (h2.mono (K' := fun _ => True) (fun _ _ _ => trivial)); have HB := hid hb
  clear h1 h2 hb
  obtain ⟨m, hmm⟩ : ∃ m, f.b.length = m := ⟨_, rfl⟩
  have HM := hid hmm
  rw [hmm] at H1 H2 ⊢
  clear hmm
  go_enter Tryd.func41, Tryd.ntmps41
  go_upto_region 1 with fail
  generalize hW : World.alloc (World.alloc w _) _ = W1
  have KS : Hd (Keeps (fun _ => False) w W1) := hid (by rw [← hW]; exact (Keeps.alloc (Keeps.alloc (Keeps.refl (fun _ => False) w) _) _))
  have H1' : Hd (Sl (fun _ => True) W1 (.slice a1 m c1) (u8s f.b)) := hid (H1.out.keep KS.out (fun _ _ _ h => h))
  have H2' : Hd (Sl (fun _ => True) W1 (.slice a2 m c2) (u8s f.b)) := hid (H2.out.keep KS.out (fun _ _ _ h => h))
  have BA : Hd (Blk W1 w.heap.size #[(.int .i64 f.q), (.int .i64 f.k), (.bool f.u), (.slice a1 m c1), (.int .u64 (f.t : Int))] 25) := hid (by rw [← hW]; exact (blk_alloc (blk_new _ _ _) _))
  have BB : Hd (Blk W1 (w.heap.size + 1) #[(.int .i64 f.q), (.int .i64 f.k), (.bool f.u), (.slice a2 m c2), (.int .u64 (f.t : Int))] 25) := hid (by rw [← hW]; exact (blk_new' _ _ _ _ (by simp)))
  clear H1 H2
  have H1 := H1'
  clear H1'
  have H2 := H2'
  clear H2'
  have HK : Hd (Keeps (fun _ => False) w W1) := hid KS.out
  have z_W1 : w.heap.size + 2 ≤ W1.heap.size := by rw [← hW]; simp
  clear hW KS
  have o_BA_0 : W1.cell? ⟨w.heap.size, 0, none⟩ = some ((.int .i64 f.q)) := blk_cell BA.out 0
  have o_BA_1 : W1.cell? ⟨w.heap.size, 1, none⟩ = some ((.int .i64 f.k)) := blk_cell BA.out 1
  have o_BA_2 : W1.cell? ⟨w.heap.size, 2, none⟩ = some ((.bool f.u)) := blk_cell BA.out 2
  have o_BA_3 : W1.cell? ⟨w.heap.size, 3, none⟩ = some ((.slice a1 m c1)) := blk_cell BA.out 3
  have o_BA_4 : W1.cell? ⟨w.heap.size, 4, none⟩ = some ((.int .u64 (f.t : Int))) := blk_cell BA.out 4
  have o_BB_0 : W1.cell? ⟨w.heap.size + 1, 0, none⟩ = some ((.int .i64 f.q)) := blk_cell BB.out 0
  have o_BB_1 : W1.cell? ⟨w.heap.size + 1, 1, none⟩ = some ((.int .i64 f.k)) := blk_cell BB.out 1
  have o_BB_2 : W1.cell? ⟨w.heap.size + 1, 2, none⟩ = some ((.bool f.u)) := blk_cell BB.out 2
  have o_BB_3 : W1.cell? ⟨w.heap.size + 1, 3, none⟩ = some ((.slice a2 m c2)) := blk_cell BB.out 3
  have o_BB_4 : W1.cell? ⟨w.heap.size + 1, 4, none⟩ = some ((.int .u64 (f.t : Int))) := blk_cell BB.out 4
  go_wp2_with fail
  refine (SameBytes_any _ _ _ _ f.b f.b _ H1.out H2.out HB.out HB.out).mono ?_
  rw [decide_eq_true rfl]
  rintro e wx ⟨rfl, rfl⟩
  go_wp2
  go_ret
  exact ⟨rfl, HK.out⟩
set_option maxRecDepth 100000 in
set_option maxHeartbeats 2000000 in
theorem SameSender_true (bs : List (List Nat)) (ac : Int) (l : Ld) (a1 a2 : Option Addr) (c1 c2 : Nat) (K1 K2 : Nat → Prop) (w : World) (h1 : Bds K1 w (.slice a1 bs.length c1) bs) (h2 : Bds K2 w (.slice a2 bs.length c2) bs) (hb : ∀ x ∈ bs, ∀ c ∈ x, c < 256) (hn : bs.length ≤ 1000000) :
    Calls Tryd.prog 38 #[.agg #[.slice a1 bs.length c1, .int .i64 ac, .int .u64 (l.k : Int), .int .i64 l.i], .agg #[.slice a2 bs.length c2, .int .i64 ac, .int .u64 (l.k : Int), .int .i64 l.i]] w fun e w' => e = .returned (.bool true) ∧ Keeps (fun _ => False) w w' := by
  have H1 := hid (h1.mono (K' := fun _ => True) (fun _ _ _ => trivial)); have H2 := hid (h2.mono (K' := fun _ => True) (fun _ _ _ => trivial)); have HB := hid hb
  clear h1 h2 hb
  obtain ⟨n, hnn⟩ : ∃ n, bs.length = n := ⟨_, rfl⟩
  have HN := hid hnn
  rw [hnn] at H1 H2 hn ⊢
  clear hnn
  obtain ⟨k, i⟩ := l
  simp only []
  go_enter Tryd.func38, Tryd.ntmps38
  go_upto_region 1 with fail
  generalize hW : World.alloc (World.alloc w _) _ = W1
  have KS : Hd (Keeps (fun _ => False) w W1) := hid (by rw [← hW]; exact (Keeps.alloc (Keeps.alloc (Keeps.refl (fun _ => False) w) _) _))
  have H1' : Hd (Bds (fun _ => True) W1 (.slice a1 n c1) bs) := hid (H1.out.keep KS.out (fun _ _ _ h => h))
  have H2' : Hd (Bds (fun _ => True) W1 (.slice a2 n c2) bs) := hid (H2.out.keep KS.out (fun _ _ _ h => h))
  have BA : Hd (Blk W1 w.heap.size #[(.slice a1 n c1), (.int .i64 ac), (.int .u64 (k : Int)), (.int .i64 i)] 57) := hid (by rw [← hW]; exact (blk_alloc (blk_new _ _ _) _))
  have BB : Hd (Blk W1 (w.heap.size + 1) #[(.slice a2 n c2), (.int .i64 ac), (.int .u64 (k : Int)), (.int .i64 i)] 57) := hid (by rw [← hW]; exact (blk_new' _ _ _ _ (by simp)))
  clear H1 H2
  have H1 := H1'
  clear H1'
  have H2 := H2'
  clear H2'
  have HK : Hd (Keeps (fun _ => False) w W1) := hid KS.out
  have z_W1 : w.heap.size + 2 ≤ W1.heap.size := by rw [← hW]; simp
  clear hW KS
  have o_BA_0 : W1.cell? ⟨w.heap.size, 0, none⟩ = some ((.slice a1 n c1)) := blk_cell BA.out 0
  have o_BA_1 : W1.cell? ⟨w.heap.size, 1, none⟩ = some ((.int .i64 ac)) := blk_cell BA.out 1
  have o_BA_2 : W1.cell? ⟨w.heap.size, 2, none⟩ = some ((.int .u64 (k : Int))) := blk_cell BA.out 2
  have o_BA_3 : W1.cell? ⟨w.heap.size, 3, none⟩ = some ((.int .i64 i)) := blk_cell BA.out 3
  have o_BB_0 : W1.cell? ⟨w.heap.size + 1, 0, none⟩ = some ((.slice a2 n c2)) := blk_cell BB.out 0
  have o_BB_1 : W1.cell? ⟨w.heap.size + 1, 1, none⟩ = some ((.int .i64 ac)) := blk_cell BB.out 1
  have o_BB_2 : W1.cell? ⟨w.heap.size + 1, 2, none⟩ = some ((.int .u64 (k : Int))) := blk_cell BB.out 2
  have o_BB_3 : W1.cell? ⟨w.heap.size + 1, 3, none⟩ = some ((.int .i64 i)) := blk_cell BB.out 3
  go_wp2_with fail
  refine (SameBodies_any _ _ _ _ bs bs _ H1.out H2.out HB.out HB.out (by rw [HN.out]; exact hn)).mono ?_
  rw [decide_eq_true rfl]
  rintro e V ⟨rfl, hk⟩
  clear o_BA_0 o_BA_1 o_BA_2 o_BA_3 o_BB_0 o_BB_1 o_BB_2 o_BB_3
  have H1' : Hd (Bds (fun _ => True) V (.slice a1 n c1) bs) := hid (H1.out.keep hk (fun _ _ _ h => h))
  have H2' : Hd (Bds (fun _ => True) V (.slice a2 n c2) bs) := hid (H2.out.keep hk (fun _ _ _ h => h))
  have BA' : Hd (Blk V w.heap.size #[(.slice a1 n c1), (.int .i64 ac), (.int .u64 (k : Int)), (.int .i64 i)] 57) := hid (blk_keep BA.out hk (fun h => h))
  have BB' : Hd (Blk V (w.heap.size + 1) #[(.slice a2 n c2), (.int .i64 ac), (.int .u64 (k : Int)), (.int .i64 i)] 57) := hid (blk_keep BB.out hk (fun h => h))
  clear H1 H2 BA BB
  have H1 := H1'
  clear H1'
  have H2 := H2'
  clear H2'
  have BA := BA'
  clear BA'
  have BB := BB'
  clear BB'
  have HK' : Hd (Keeps (fun _ => False) w V) := hid (HK.out.trans hk)
  clear HK
  have HK := HK'
  clear HK'
  have z_V := hk.size
  clear hk
  go_wp2
  go_ret
  exact ⟨rfl, HK.out⟩
end Go.Proofs.YthoikljmokkchaaDoor
