/- Frame: equal frames, receivers and senders are the same. -/
import Derived.Test.YthoikljmokkchaaDoorFrU
import Derived.Test.YthoikljmokkchaaDoorFrRcv
import Derived.Deep.DrawnRows
namespace Go.Proofs.YthoikljmokkchaaDoor
open Go.RowKit
attribute [local go_sem ↓] Go.wp_at_zero Go.wp_at_succ
set_option maxRecDepth 100000 in
set_option maxHeartbeats 2000000 in
theorem SameFrame_true (f : Fr) (a1 a2 : Option Addr) (c1 c2 : Nat) (K1 K2 : Nat → Prop) (w : World) (h1 : Sl K1 w (.slice a1 f.b.length c1) (u8s f.b)) (h2 : Sl K2 w (.slice a2 f.b.length c2) (u8s f.b)) (hb : ∀ c ∈ f.b, c < 256) :
    Calls Tryd.prog 41 #[.agg #[.int .i64 f.q, .int .i64 f.k, .bool f.u, .slice a1 f.b.length c1, .int .u64 (f.t : Int)], .agg #[.int .i64 f.q, .int .i64 f.k, .bool f.u, .slice a2 f.b.length c2, .int .u64 (f.t : Int)]] w fun e w' => e = .returned (.bool true) ∧ Keeps (fun _ => False) w w' := by
  have H1 := hid (h1.mono (K' := fun _ => True) (fun _ _ _ => trivial)); have H2 := hid (h2.mono (K' := fun _ => True) (fun _ _ _ => trivial)); have HB := hid hb
  clear h1 h2 hb
  obtain ⟨m, hmm⟩ : ∃ m, f.b.length = m := ⟨_, rfl⟩
  have HM := hid hmm
  rw [hmm] at H1 H2 ⊢
  clear hmm
  go_enter Tryd.func41, Tryd.ntmps41
  go_upto_region 1 with fail
  generalize hW : World.alloc (World.alloc w _) _ = W1
  have KS : Hd (Keeps (fun _ => False) w W1) := hid (by rw [← hW]; exact (Keeps.alloc (Keeps.alloc (Keeps.refl (fun _ => False) w) _) _))
  have H1' : Hd (Sl (fun _ => True) W1 (.slice a1 m c1) (u8s f.b)) := hid (H1.out.keep KS.out (fun _ _ _ h => h))
  have H2' : Hd (Sl (fun _ => True) W1 (.slice a2 m c2) (u8s f.b)) := hid (H2.out.keep KS.out (fun _ _ _ h => h))
  have BA : Hd (Blk W1 w.heap.size #[(.int .i64 f.q), (.int .i64 f.k), (.bool f.u), (.slice a1 m c1), (.int .u64 (f.t : Int))] 25) := hid (by rw [← hW]; exact (blk_alloc (blk_new _ _ _) _))
  have BB : Hd (Blk W1 (w.heap.size + 1) #[(.int .i64 f.q), (.int .i64 f.k), (.bool f.u), (.slice a2 m c2), (.int .u64 (f.t : Int))] 25) := hid (by rw [← hW]; exact (blk_new' _ _ _ _ (by simp)))
  clear H1 H2
  have H1 := H1'
  clear H1'
  have H2 := H2'
  clear H2'
  have HK : Hd (Keeps (fun _ => False) w W1) := hid KS.out
  have z_W1 : w.heap.size + 2 ≤ W1.heap.size := by rw [← hW]; simp
  clear hW KS
  have o_BA_0 : W1.cell? ⟨w.heap.size, 0, none⟩ = some ((.int .i64 f.q)) := blk_cell BA.out 0
  have o_BA_1 : W1.cell? ⟨w.heap.size, 1, none⟩ = some ((.int .i64 f.k)) := blk_cell BA.out 1
  have o_BA_2 : W1.cell? ⟨w.heap.size, 2, none⟩ = some ((.bool f.u)) := blk_cell BA.out 2
  have o_BA_3 : W1.cell? ⟨w.heap.size, 3, none⟩ = some ((.slice a1 m c1)) := blk_cell BA.out 3
  have o_BA_4 : W1.cell? ⟨w.heap.size, 4, none⟩ = some ((.int .u64 (f.t : Int))) := blk_cell BA.out 4
  have o_BB_0 : W1.cell? ⟨w.heap.size + 1, 0, none⟩ = some ((.int .i64 f.q)) := blk_cell BB.out 0
  have o_BB_1 : W1.cell? ⟨w.heap.size + 1, 1, none⟩ = some ((.int .i64 f.k)) := blk_cell BB.out 1
  have o_BB_2 : W1.cell? ⟨w.heap.size + 1, 2, none⟩ = some ((.bool f.u)) := blk_cell BB.out 2
  have o_BB_3 : W1.cell? ⟨w.heap.size + 1, 3, none⟩ = some ((.slice a2 m c2)) := blk_cell BB.out 3
  have o_BB_4 : W1.cell? ⟨w.heap.size + 1, 4, none⟩ = some ((.int .u64 (f.t : Int))) := blk_cell BB.out 4
  go_wp2_with fail
  refine (SameBytes_any _ _ _ _ f.b f.b _ H1.out H2.out HB.out HB.out).mono ?_
  rw [decide_eq_true rfl]
  rintro e wx ⟨rfl, rfl⟩
  go_wp2
  go_ret
  exact ⟨rfl, HK.out⟩
set_option maxRecDepth 100000 in
set_option maxHeartbeats 2000000 in
theorem SameReceiver_true (nx : Int) (fs : List Fr) (lk : Bool) (l : Ld) (a1 a2 : Option Addr) (c1 c2 : Nat) (K1 K2 : Nat → Prop) (w : World) (h1 : Frs K1 w (.slice a1 fs.length c1) fs) (h2 : Frs K2 w (.slice a2 fs.length c2) fs) (hb : ∀ x ∈ fs, ∀ c ∈ x.b, c < 256) (hn : fs.length ≤ 1000) :
    Calls Tryd.prog 26 #[.agg #[.int .i64 nx, .slice a1 fs.length c1, .bool lk, .int .u64 (l.k : Int), .int .i64 l.i], .agg #[.int .i64 nx, .slice a2 fs.length c2, .bool lk, .int .u64 (l.k : Int), .int .i64 l.i]] w fun e w' => e = .returned (.bool true) ∧ Keeps (fun _ => False) w w' := by
  have H1 := hid (h1.mono (K' := fun _ => True) (fun _ _ _ => trivial)); have H2 := hid (h2.mono (K' := fun _ => True) (fun _ _ _ => trivial)); have HB := hid hb
  clear h1 h2 hb
  obtain ⟨n, hnn⟩ : ∃ n, fs.length = n := ⟨_, rfl⟩
  have HN := hid hnn
  rw [hnn] at H1 H2 hn ⊢
  clear hnn
  obtain ⟨k, i⟩ := l
  simp only []
  go_enter Tryd.func26, Tryd.ntmps26
  go_upto_region 1 with fail
  generalize hW : World.alloc (World.alloc w _) _ = W1
  have KS : Hd (Keeps (fun _ => False) w W1) := hid (by rw [← hW]; exact (Keeps.alloc (Keeps.alloc (Keeps.refl (fun _ => False) w) _) _))
  have H1' : Hd (Frs (fun _ => True) W1 (.slice a1 n c1) fs) := hid (H1.out.keep KS.out (fun _ _ _ h => h))
  have H2' : Hd (Frs (fun _ => True) W1 (.slice a2 n c2) fs) := hid (H2.out.keep KS.out (fun _ _ _ h => h))
  have BA : Hd (Blk W1 w.heap.size #[(.int .i64 nx), (.slice a1 n c1), (.bool lk), (.int .u64 (k : Int)), (.int .i64 i)] 35) := hid (by rw [← hW]; exact (blk_alloc (blk_new _ _ _) _))
  have BB : Hd (Blk W1 (w.heap.size + 1) #[(.int .i64 nx), (.slice a2 n c2), (.bool lk), (.int .u64 (k : Int)), (.int .i64 i)] 35) := hid (by rw [← hW]; exact (blk_new' _ _ _ _ (by simp)))
  clear H1 H2
  have H1 := H1'
  clear H1'
  have H2 := H2'
  clear H2'
  have HK : Hd (Keeps (fun _ => False) w W1) := hid KS.out
  have z_W1 : w.heap.size + 2 ≤ W1.heap.size := by rw [← hW]; simp
  clear hW KS
  have o_BA_0 : W1.cell? ⟨w.heap.size, 0, none⟩ = some ((.int .i64 nx)) := blk_cell BA.out 0
  have o_BA_1 : W1.cell? ⟨w.heap.size, 1, none⟩ = some ((.slice a1 n c1)) := blk_cell BA.out 1
  have o_BA_2 : W1.cell? ⟨w.heap.size, 2, none⟩ = some ((.bool lk)) := blk_cell BA.out 2
  have o_BA_3 : W1.cell? ⟨w.heap.size, 3, none⟩ = some ((.int .u64 (k : Int))) := blk_cell BA.out 3
  have o_BA_4 : W1.cell? ⟨w.heap.size, 4, none⟩ = some ((.int .i64 i)) := blk_cell BA.out 4
  have o_BB_0 : W1.cell? ⟨w.heap.size + 1, 0, none⟩ = some ((.int .i64 nx)) := blk_cell BB.out 0
  have o_BB_1 : W1.cell? ⟨w.heap.size + 1, 1, none⟩ = some ((.slice a2 n c2)) := blk_cell BB.out 1
  have o_BB_2 : W1.cell? ⟨w.heap.size + 1, 2, none⟩ = some ((.bool lk)) := blk_cell BB.out 2
  have o_BB_3 : W1.cell? ⟨w.heap.size + 1, 3, none⟩ = some ((.int .u64 (k : Int))) := blk_cell BB.out 3
  have o_BB_4 : W1.cell? ⟨w.heap.size + 1, 4, none⟩ = some ((.int .i64 i)) := blk_cell BB.out 4
  go_wp2_with fail
  clear o_BA_0 o_BA_1 o_BA_2 o_BA_3 o_BA_4 o_BB_0 o_BB_1 o_BB_2 o_BB_3 o_BB_4
  go_loopw [5] (fun iv wr => ∃ j : Nat, iv = .int .i64 (j : Int) ∧ j ≤ n ∧ Hd (Keeps (fun _ => False) W1 wr)) (fun iv _ => n - (intOf iv).toNat)
  case atStart => exact ⟨0, rfl, Nat.zero_le _, hid (Keeps.refl _ _)⟩
  case round =>
    obtain ⟨V, rfl⟩ : ∃ V, V = wr := ⟨_, rfl⟩
    obtain ⟨j, rfl, hj, HX2⟩ := hrel
    have hk := HX2.out
    have H1' : Hd (Frs (fun _ => True) V (.slice a1 n c1) fs) := hid (H1.out.keep hk (fun _ _ _ h => h))
    have H2' : Hd (Frs (fun _ => True) V (.slice a2 n c2) fs) := hid (H2.out.keep hk (fun _ _ _ h => h))
    have BA' : Hd (Blk V w.heap.size #[(.int .i64 nx), (.slice a1 n c1), (.bool lk), (.int .u64 (k : Int)), (.int .i64 i)] 35) := hid (blk_keep BA.out hk (fun h => h))
    have BB' : Hd (Blk V (w.heap.size + 1) #[(.int .i64 nx), (.slice a2 n c2), (.bool lk), (.int .u64 (k : Int)), (.int .i64 i)] 35) := hid (blk_keep BB.out hk (fun h => h))
    clear H1 H2 BA BB
    have H1 := H1'
    clear H1'
    have H2 := H2'
    clear H2'
    have BA := BA'
    clear BA'
    have BB := BB'
    clear BB'
    have HK' : Hd (Keeps (fun _ => False) w V) := hid (HK.out.trans hk)
    clear HK
    have HK := HK'
    clear HK'
    have z_V := hk.size
    clear hk
    by_cases hlt : j < n
    · have q1 : (j : Int) < n := by omega
      have q2 : (0 : Int) ≤ j := by omega
      obtain ⟨b1, o1, rfl, -, -, hc1⟩ := frs_cells H1.out (by rw [HN.out]; omega)
      obtain ⟨b2, o2, rfl, -, -, hc2⟩ := frs_cells H2.out (by rw [HN.out]; omega)
      obtain ⟨x, hx⟩ : ∃ x, fs[j]? = some x := ⟨fs[j]'(by rw [HN.out]; omega), List.getElem?_eq_getElem _⟩
      obtain ⟨e0, e1, e2, e4, ad, cd, e3, s1⟩ := hc1 j x hx
      obtain ⟨f0, f1, f2, f4, ae, ce, f3, s2⟩ := hc2 j x hx
      have HC := hid (fun z : Ext V => SameFrame_true x ad ae cd ce _ _ z.w (s1.keep z.k (fun _ _ _ h => h)) (s2.keep z.k (fun _ _ _ h => h)) (HB.out x (List.mem_of_getElem? hx)))
      obtain ⟨xl, hxl⟩ : ∃ xl, x.b.length = xl := ⟨_, rfl⟩
      rw [hxl] at e3 f3 HC
      clear hxl s1 s2 hc1 hc2 hx
      have x0 : ∀ z : Ext V, z.w.cell? _ = some _ := ext_cell e0
      have x1 : ∀ z : Ext V, z.w.cell? _ = some _ := ext_cell e1
      have x2 : ∀ z : Ext V, z.w.cell? _ = some _ := ext_cell e2
      have x3 : ∀ z : Ext V, z.w.cell? _ = some _ := ext_cell e3
      have x4 : ∀ z : Ext V, z.w.cell? _ = some _ := ext_cell e4
      have y0 : ∀ z : Ext V, z.w.cell? _ = some _ := ext_cell f0
      have y1 : ∀ z : Ext V, z.w.cell? _ = some _ := ext_cell f1
      have y2 : ∀ z : Ext V, z.w.cell? _ = some _ := ext_cell f2
      have y3 : ∀ z : Ext V, z.w.cell? _ = some _ := ext_cell f3
      have y4 : ∀ z : Ext V, z.w.cell? _ = some _ := ext_cell f4
      clear e0 e1 e2 e3 e4 f0 f1 f2 f3 f4
      have z1 : ∀ z : Ext V, z.w.cell? ⟨w.heap.size, 1, none⟩ = some _ := ext_bcell BA.out 1 rfl
      have z2 : ∀ z : Ext V, z.w.cell? ⟨w.heap.size + 1, 1, none⟩ = some _ := ext_bcell BB.out 1 rfl
      have o1 : V.cell? ⟨w.heap.size, 1, none⟩ = some (.slice (some ⟨b1, o1, none⟩) n c1) := blk_cell BA.out 1
      go_upto_region 6 with fail
      clear o1
      refine wp_region_ext (by kernel_rfl) (by kernel_rfl) ?_
      repeat (go_big_quiet_step (first | (go_at_call 41; exact ext_call (HC.out _))))
      refine wpQuiet_nil ?_
      rintro _ ⟨z, rfl⟩
      clear x0 x1 x2 x3 x4 y0 y1 y2 y3 y4 z1 z2 HC
      have hk2 := hid (HX2.out.trans z.k)
      generalize z.w = V2 at *
      clear z
      go_wp2
      go_roundw
      case rel => exact ⟨j + 1, by first | rfl | go_num, by omega, hk2⟩
      case measure => simp [intOf]; omega
    · have q1 : ¬ ((j : Int) < n) := by omega
      have o_BA_1 : V.cell? ⟨w.heap.size, 1, none⟩ = some ((.slice a1 n c1)) := blk_cell BA.out 1
      go_wp2
      go_ret
      exact ⟨rfl, HK.out⟩
end Go.Proofs.YthoikljmokkchaaDoor
