/- Frames: FrG, FrH, FrIa, FrI: walks and plain facts. -/
import Derived.Test.YthoikljmokkchaaDoorFrBase
import Derived.Deep.RegionWith
import Derived.BigRegion
import Derived.Deep.DrawnRows
namespace Go.Proofs.YthoikljmokkchaaDoor
open Go.RowKit
def setK (f : Fr) (k : Int) : Fr := ⟨f.q, k, f.u, f.b, f.t⟩
def signF (l : Ld) (f : Fr) : Fr := ⟨f.q, l.i, f.u, f.b, tagN l.k (covL (setK f l.i))⟩
theorem setK_ok {f : Fr} (h : f.ok) {l : Ld} (hl : l.ok) : (setK f l.i).ok := ⟨h.q0, h.q1, by have := hl.i0; show _ ≤ l.i; omega, by have := hl.i1; show l.i ≤ _; omega, h.b, h.t, h.n⟩
theorem signF_ok {f : Fr} (h : f.ok) {l : Ld} (hl : l.ok) : (signF l f).ok := ⟨h.q0, h.q1, by have := hl.i0; show _ ≤ l.i; omega, by have := hl.i1; show l.i ≤ _; omega, h.b, tagN_lt _ _, h.n⟩
theorem nextL_ok {l : Ld} (h : l.ok) (hi : l.i < 1000000000000) : (nextL l).ok := ⟨stepN_lt _, by have := h.i0; show 0 ≤ l.i + 1; omega, by show l.i + 1 ≤ _; omega⟩
theorem LNew_any (k : Nat) (w : World) : Calls Tryd.prog 21 #[.int .u64 (k : Int)] w fun e w' => e = .returned (.agg #[.int .u64 (k : Int), .int .i64 0]) ∧ Keeps (fun _ => False) w w' := by
  go_enter Tryd.func21, Tryd.ntmps21
  go_upto_region 1 with fail
  generalize hW : World.alloc w _ = W1
  have KS : Hd (Keeps (fun _ => False) w W1) := hid (by rw [← hW]; exact (Keeps.alloc (Keeps.refl (fun _ => False) w) _))
  have BR : Hd (Blk W1 w.heap.size #[(.int .u64 0), (.int .i64 0)] 33) := hid (by rw [← hW]; exact (blk_new _ _ _))
  have HK : Hd (Keeps (fun _ => False) w W1) := hid KS.out
  have z_W1 : w.heap.size + 1 ≤ W1.heap.size := by rw [← hW]; simp
  clear hW KS
  have o_BR_0 : W1.cell? ⟨w.heap.size, 0, none⟩ = some ((.int .u64 0)) := blk_cell BR.out 0
  have o_BR_1 : W1.cell? ⟨w.heap.size, 1, none⟩ = some ((.int .i64 0)) := blk_cell BR.out 1
  have f_BR_0 : W1.frozen? ⟨w.heap.size, 0, none⟩ = false := blk_free BR.out 0
  have f_BR_1 : W1.frozen? ⟨w.heap.size, 1, none⟩ = false := blk_free BR.out 1
  go_wp2
  clear o_BR_0 o_BR_1 f_BR_0 f_BR_1
  obtain ⟨HV2, B3⟩ := fin2 HK.out (show w.heap.size ≤ w.heap.size by omega) BR.out (.int .u64 (k : Int)) (.int .i64 0)
  have r0 := blk_cell B3 0
  have r1 := blk_cell B3 1
  refine bodyPost_ret (v := .agg #[.int .u64 (k : Int), .int .i64 0]) (by simp [results, Tryd.results21, go_sem, r0, r1]) rfl ?_
  exact ⟨rfl, HV2⟩
set_option maxRecDepth 100000 in
set_option maxHeartbeats 2000000 in
theorem sign_any (l : Ld) (f : Fr) (ac : Int) (ba : Option Addr) (bn bc : Nat) (K : Nat → Prop) (a : Option Addr) (c : Nat) (w : World) (hl : l.ok) (hf : f.ok) (hx : Sl K w (.slice a f.b.length c) (u8s f.b)) :
    Calls Tryd.prog 75 #[.agg #[.slice ba bn bc, .int .i64 ac, .int .u64 (l.k : Int), .int .i64 l.i], .agg #[.int .i64 f.q, .int .i64 f.k, .bool f.u, .slice a f.b.length c, .int .u64 (f.t : Int)]] w fun e w' => e = .returned (.tuple #[.agg #[.int .i64 f.q, .int .i64 l.i, .bool f.u, .slice a f.b.length c, .int .u64 ((signF l f).t : Int)], .agg #[.slice ba bn bc, .int .i64 ac, .int .u64 (stepN l.k : Nat), .int .i64 (l.i + 1)]]) ∧ Keeps (fun _ => False) w w' := by
  obtain ⟨g, hg⟩ : ∃ g, setK f l.i = g := ⟨_, rfl⟩
  have HGO : Hd g.ok := hid (by rw [← hg]; exact setK_ok hf hl)
  obtain ⟨en, hen⟩ : ∃ en, covL g = en := ⟨_, rfl⟩
  have HEL : Hd (en.length ≤ 140737488355000) := hid (by rw [← hen]; have h1 := covL_len HGO.out; have := HGO.out.n; omega)
  have HET : Hd (∀ c ∈ en, c < 256) := hid (by rw [← hen]; exact covL_lt HGO.out)
  obtain ⟨t, ht⟩ : ∃ t, tagN l.k en = t := ⟨_, rfl⟩
  have hst : (signF l f).t = t := by rw [← ht, ← hen, ← hg]; rfl
  rw [hst]
  have HLO := hid hl
  have HX := hid (hx.mono (K' := fun b => b < w.heap.size) (fun b h _ => h))
  have HG : Hd (g = ⟨f.q, l.i, f.u, f.b, f.t⟩) := hid hg.symm
  have HEN := hid hen; have HT := hid ht
  obtain ⟨k, i⟩ := l
  obtain ⟨s, hs⟩ : ∃ s, stepN k = s := ⟨_, rfl⟩
  simp only [] at *
  rw [hs]
  have HS := hid hs
  have hi0 := HLO.out.i0; have hi1 := HLO.out.i1
  clear hg hen ht hst hl hf hx hs
  go_enter Tryd.func75, Tryd.ntmps75
  go_upto_region 1 with fail
  generalize hW : World.alloc (World.alloc (World.alloc (World.alloc w _) _) _) _ = W1
  have KS : Hd (Keeps (fun _ => False) w W1) := hid (by rw [← hW]; exact (Keeps.alloc (Keeps.alloc (Keeps.alloc (Keeps.alloc (Keeps.refl (fun _ => False) w) _) _) _) _))
  have HX' : Hd (Sl (fun b => b < w.heap.size) W1 (.slice a f.b.length c) (u8s f.b)) := hid (HX.out.keep KS.out (fun _ _ _ h => h))
  have BS : Hd (Blk W1 w.heap.size #[(.slice ba bn bc), (.int .i64 ac), (.int .u64 (k : Int)), (.int .i64 i)] 57) := hid (by rw [← hW]; exact (blk_alloc (blk_alloc (blk_alloc (blk_new _ _ _) _) _) _))
  have BF : Hd (Blk W1 (w.heap.size + 1) #[(.int .i64 f.q), (.int .i64 f.k), (.bool f.u), (.slice a f.b.length c), (.int .u64 (f.t : Int))] 25) := hid (by rw [← hW]; exact (blk_alloc (blk_alloc (blk_new' _ _ _ _ (by simp)) _) _))
  have BR1 : Hd (Blk W1 (w.heap.size + 1 + 1) #[(.int .i64 0), (.int .i64 0), (.bool false), (.slice none 0 0), (.int .u64 0)] 25) := hid (by rw [← hW]; exact (blk_alloc (blk_new' _ _ _ _ (by simp)) _))
  have BR2 : Hd (Blk W1 (w.heap.size + 1 + 1 + 1) #[(.slice none 0 0), (.int .i64 0), (.int .u64 0), (.int .i64 0)] 57) := hid (by rw [← hW]; exact (blk_new' _ _ _ _ (by simp)))
  clear HX
  have HX := HX'
  clear HX'
  have HK : Hd (Keeps (fun _ => False) w W1) := hid KS.out
  have z_W1 : w.heap.size + 4 ≤ W1.heap.size := by rw [← hW]; simp
  clear hW KS
  generalize hb_BR2 : w.heap.size + 1 + 1 + 1 = b_BR2 at *
  generalize hb_BR1 : w.heap.size + 1 + 1 = b_BR1 at *
  generalize hb_BF : w.heap.size + 1 = b_BF at *
  have o_BS_3 : W1.cell? ⟨w.heap.size, 3, none⟩ = some ((.int .i64 i)) := blk_cell BS.out 3
  have o_BF_1 : W1.cell? ⟨b_BF, 1, none⟩ = some ((.int .i64 f.k)) := blk_cell BF.out 1
  have f_BF_1 : W1.frozen? ⟨b_BF, 1, none⟩ = false := blk_free BF.out 1
  go_upto_region 2 with fail
  clear o_BS_3 o_BF_1 f_BF_1
  generalize hW : World.setCell W1 _ _ = W2
  have KS : Hd (Keeps (fun b => b = b_BF) W1 W2) := hid (by rw [← hW]; exact (Keeps.setCell (S := fun b => b = b_BF) (Keeps.refl (fun b => b = b_BF) W1) (.inl rfl) _))
  have HX' : Hd (Sl (fun b => b < w.heap.size) W2 (.slice a f.b.length c) (u8s f.b)) := hid (HX.out.keep KS.out (fun b _ h1 h2 => by omega))
  have BS' : Hd (Blk W2 w.heap.size #[(.slice ba bn bc), (.int .i64 ac), (.int .u64 (k : Int)), (.int .i64 i)] 57) := hid (by rw [← hW]; exact (blk_other BS.out (by omega) _ _))
  have BF' : Hd (Blk W2 b_BF #[(.int .i64 f.q), (.int .i64 i), (.bool f.u), (.slice a f.b.length c), (.int .u64 (f.t : Int))] 25) := hid (by rw [← hW]; exact (blk_set BF.out 1 _))
  have BR1' : Hd (Blk W2 b_BR1 #[(.int .i64 0), (.int .i64 0), (.bool false), (.slice none 0 0), (.int .u64 0)] 25) := hid (by rw [← hW]; exact (blk_other BR1.out (by omega) _ _))
  have BR2' : Hd (Blk W2 b_BR2 #[(.slice none 0 0), (.int .i64 0), (.int .u64 0), (.int .i64 0)] 57) := hid (by rw [← hW]; exact (blk_other BR2.out (by omega) _ _))
  clear HX BS BF BR1 BR2
  have HX := HX'
  clear HX'
  have BS := BS'
  clear BS'
  have BF := BF'
  clear BF'
  have BR1 := BR1'
  clear BR1'
  have BR2 := BR2'
  clear BR2'
  have HK' : Hd (Keeps (fun _ => False) w W2) := hid (HK.out.trans' KS.out (fun i hi h => by omega))
  clear HK
  have HK := HK'
  clear HK'
  have z_W2 : W1.heap.size + 0 ≤ W2.heap.size := by rw [← hW]; simp
  clear hW KS
  have HCS : Hd (∀ X, Keeps (fun _ => False) W2 X → Calls Tryd.prog 14 #[.agg #[.int .i64 f.q, .int .i64 i, .bool f.u, .slice a f.b.length c, .int .u64 (f.t : Int)]] X fun e w' => Cr.NewRet X 5 (u8s en) e w') := hid (fun X hx => by have h := Signed_any g (fun b => b < w.heap.size) a c X HGO.out (by have h := HX.out.keep hx (fun _ _ _ h => h); rw [HG.out]; exact h); rw [HEN.out] at h; simp only [HG.out] at h; exact h)
  have HCL : Hd (∀ X (v : Value) (K : Nat → Prop), Sl K X v (u8s en) → Calls Tryd.prog 50 #[.agg #[.int .u64 (k : Int), .int .i64 i], v] X fun e w' => e = .returned (.tuple #[.int .u64 (t : Int), .agg #[.int .u64 (s : Int), .int .i64 (i + 1)]]) ∧ Keeps (fun _ => False) X w') := hid (fun X v K hv => by have h := LSign_any ⟨k, i⟩ K v en X HLO.out hv HET.out (Nat.le_trans HEL.out (by decide)); simp only [HT.out, HS.out] at h; exact h)
  go_cut [] from 10 to 19 (fun wx => Hd (Blk wx b_BF #[(.int .i64 f.q), (.int .i64 i), (.bool f.u), (.slice a f.b.length c), (.int .u64 (t : Int))] 25) ∧ Hd (Blk wx w.heap.size #[(.slice ba bn bc), (.int .i64 ac), (.int .u64 (s : Int)), (.int .i64 (i + 1))] 57) ∧ Hd (Keeps (fun b => b = b_BF ∨ b = w.heap.size) W2 wx))
  case first =>
    have KC : Hd (Keeps (fun _ => False) W2 W2) := hid (Keeps.refl _ _)
    have sF_BF_0 : W2.cell? ⟨b_BF, 0, none⟩ = some ((.int .i64 f.q)) := blk_cell (blk_keep BF.out KC.out (fun h => h)) 0
    have sG_BF_0 : W2.frozen? ⟨b_BF, 0, none⟩ = false := blk_free (blk_keep BF.out KC.out (fun h => h)) 0
    have sF_BF_1 : W2.cell? ⟨b_BF, 1, none⟩ = some ((.int .i64 i)) := blk_cell (blk_keep BF.out KC.out (fun h => h)) 1
    have sG_BF_1 : W2.frozen? ⟨b_BF, 1, none⟩ = false := blk_free (blk_keep BF.out KC.out (fun h => h)) 1
    have sF_BF_2 : W2.cell? ⟨b_BF, 2, none⟩ = some ((.bool f.u)) := blk_cell (blk_keep BF.out KC.out (fun h => h)) 2
    have sG_BF_2 : W2.frozen? ⟨b_BF, 2, none⟩ = false := blk_free (blk_keep BF.out KC.out (fun h => h)) 2
    have sF_BF_3 : W2.cell? ⟨b_BF, 3, none⟩ = some ((.slice a f.b.length c)) := blk_cell (blk_keep BF.out KC.out (fun h => h)) 3
    have sG_BF_3 : W2.frozen? ⟨b_BF, 3, none⟩ = false := blk_free (blk_keep BF.out KC.out (fun h => h)) 3
    have sF_BF_4 : W2.cell? ⟨b_BF, 4, none⟩ = some ((.int .u64 (f.t : Int))) := blk_cell (blk_keep BF.out KC.out (fun h => h)) 4
    have sG_BF_4 : W2.frozen? ⟨b_BF, 4, none⟩ = false := blk_free (blk_keep BF.out KC.out (fun h => h)) 4
    have sF_BS_0 : W2.cell? ⟨w.heap.size, 0, none⟩ = some ((.slice ba bn bc)) := blk_cell (blk_keep BS.out KC.out (fun h => h)) 0
    have sG_BS_0 : W2.frozen? ⟨w.heap.size, 0, none⟩ = false := blk_free (blk_keep BS.out KC.out (fun h => h)) 0
    have sF_BS_1 : W2.cell? ⟨w.heap.size, 1, none⟩ = some ((.int .i64 ac)) := blk_cell (blk_keep BS.out KC.out (fun h => h)) 1
    have sG_BS_1 : W2.frozen? ⟨w.heap.size, 1, none⟩ = false := blk_free (blk_keep BS.out KC.out (fun h => h)) 1
    have sF_BS_2 : W2.cell? ⟨w.heap.size, 2, none⟩ = some ((.int .u64 (k : Int))) := blk_cell (blk_keep BS.out KC.out (fun h => h)) 2
    have sG_BS_2 : W2.frozen? ⟨w.heap.size, 2, none⟩ = false := blk_free (blk_keep BS.out KC.out (fun h => h)) 2
    have sF_BS_3 : W2.cell? ⟨w.heap.size, 3, none⟩ = some ((.int .i64 i)) := blk_cell (blk_keep BS.out KC.out (fun h => h)) 3
    have sG_BS_3 : W2.frozen? ⟨w.heap.size, 3, none⟩ = false := blk_free (blk_keep BS.out KC.out (fun h => h)) 3
    have LB_BF : ∀ X, Blk X b_BF #[(.int .i64 f.q), (.int .i64 i), (.bool f.u), (.slice a f.b.length c), (.int .u64 (f.t : Int))] 25 → Blk (X.setCell ⟨b_BF, 4, none⟩ (.int .u64 (t : Int))) b_BF #[(.int .i64 f.q), (.int .i64 i), (.bool f.u), (.slice a f.b.length c), (.int .u64 (t : Int))] 25 := fun X h => (blk_set h 4 _)
    have LO_BS_BF : ∀ X cs T, Blk X b_BF cs T → Blk ((X.setCell ⟨w.heap.size, 2, none⟩ (.int .u64 (s : Int))).setCell ⟨w.heap.size, 3, none⟩ (.int .i64 (i + 1))) b_BF cs T := fun X cs T h => (blk_other (blk_other h (by omega) _ _) (by omega) _ _)
    have LB_BS : ∀ X, Blk X w.heap.size #[(.slice ba bn bc), (.int .i64 ac), (.int .u64 (k : Int)), (.int .i64 i)] 57 → Blk ((X.setCell ⟨w.heap.size, 2, none⟩ (.int .u64 (s : Int))).setCell ⟨w.heap.size, 3, none⟩ (.int .i64 (i + 1))) w.heap.size #[(.slice ba bn bc), (.int .i64 ac), (.int .u64 (s : Int)), (.int .i64 (i + 1))] 57 := fun X h => (blk_set (blk_set h 2 _) 3 _)
    have LO_BF_BS : ∀ X cs T, Blk X w.heap.size cs T → Blk (X.setCell ⟨b_BF, 4, none⟩ (.int .u64 (t : Int))) w.heap.size cs T := fun X cs T h => (blk_other h (by omega) _ _)
    go_region_with (first
      | (go_at_call 14; (refine (HCS.out _ (by repeat (first | (with_reducible exact KC.out) | (with_reducible exact Keeps.refl _ _) | (with_reducible apply Keeps.drewN) | (with_reducible apply Keeps.drew) | (with_reducible apply Keeps.alloc)))).mono ?_); rintro e wy0 ⟨an, nn, cn, rfl, hnn, hon, hk⟩; have KC2 : Hd (Keeps (fun _ => False) W2 wy0) := hid (Keeps.trans (S := fun _ => False) (by repeat (first | (with_reducible exact KC.out) | (with_reducible exact Keeps.refl _ _) | (with_reducible apply Keeps.drewN) | (with_reducible apply Keeps.drew) | (with_reducible apply Keeps.alloc))) hk); have zc := KC.out.size; have zk := hk.size; (try simp at zk); have HSL : Hd (Sl (fun _ => True) wy0 (.slice an nn cn) (u8s en)) := hid ((row_sl hon.row hnn.symm).mono (fun _ _ _ => trivial)); clear hnn hon; replace KC := KC2; clear KC2; have sF_BF_0 : wy0.cell? ⟨b_BF, 0, none⟩ = some ((.int .i64 f.q)) := blk_cell (blk_keep BF.out KC.out (fun h => h)) 0; have sG_BF_0 : wy0.frozen? ⟨b_BF, 0, none⟩ = false := blk_free (blk_keep BF.out KC.out (fun h => h)) 0; have sF_BF_1 : wy0.cell? ⟨b_BF, 1, none⟩ = some ((.int .i64 i)) := blk_cell (blk_keep BF.out KC.out (fun h => h)) 1; have sG_BF_1 : wy0.frozen? ⟨b_BF, 1, none⟩ = false := blk_free (blk_keep BF.out KC.out (fun h => h)) 1; have sF_BF_2 : wy0.cell? ⟨b_BF, 2, none⟩ = some ((.bool f.u)) := blk_cell (blk_keep BF.out KC.out (fun h => h)) 2; have sG_BF_2 : wy0.frozen? ⟨b_BF, 2, none⟩ = false := blk_free (blk_keep BF.out KC.out (fun h => h)) 2; have sF_BF_3 : wy0.cell? ⟨b_BF, 3, none⟩ = some ((.slice a f.b.length c)) := blk_cell (blk_keep BF.out KC.out (fun h => h)) 3; have sG_BF_3 : wy0.frozen? ⟨b_BF, 3, none⟩ = false := blk_free (blk_keep BF.out KC.out (fun h => h)) 3; have sF_BF_4 : wy0.cell? ⟨b_BF, 4, none⟩ = some ((.int .u64 (f.t : Int))) := blk_cell (blk_keep BF.out KC.out (fun h => h)) 4; have sG_BF_4 : wy0.frozen? ⟨b_BF, 4, none⟩ = false := blk_free (blk_keep BF.out KC.out (fun h => h)) 4; have sF_BS_0 : wy0.cell? ⟨w.heap.size, 0, none⟩ = some ((.slice ba bn bc)) := blk_cell (blk_keep BS.out KC.out (fun h => h)) 0; have sG_BS_0 : wy0.frozen? ⟨w.heap.size, 0, none⟩ = false := blk_free (blk_keep BS.out KC.out (fun h => h)) 0; have sF_BS_1 : wy0.cell? ⟨w.heap.size, 1, none⟩ = some ((.int .i64 ac)) := blk_cell (blk_keep BS.out KC.out (fun h => h)) 1; have sG_BS_1 : wy0.frozen? ⟨w.heap.size, 1, none⟩ = false := blk_free (blk_keep BS.out KC.out (fun h => h)) 1; have sF_BS_2 : wy0.cell? ⟨w.heap.size, 2, none⟩ = some ((.int .u64 (k : Int))) := blk_cell (blk_keep BS.out KC.out (fun h => h)) 2; have sG_BS_2 : wy0.frozen? ⟨w.heap.size, 2, none⟩ = false := blk_free (blk_keep BS.out KC.out (fun h => h)) 2; have sF_BS_3 : wy0.cell? ⟨w.heap.size, 3, none⟩ = some ((.int .i64 i)) := blk_cell (blk_keep BS.out KC.out (fun h => h)) 3; have sG_BS_3 : wy0.frozen? ⟨w.heap.size, 3, none⟩ = false := blk_free (blk_keep BS.out KC.out (fun h => h)) 3; replace hk := hid hk)
      | (go_at_call 50; (refine (HCL.out _ _ _ HSL.out).mono ?_); rintro e wy1 ⟨rfl, hk⟩; have KC2 : Hd (Keeps (fun _ => False) W2 wy1) := hid (Keeps.trans (S := fun _ => False) (by repeat (first | (with_reducible exact KC.out) | (with_reducible exact Keeps.refl _ _) | (with_reducible apply Keeps.drewN) | (with_reducible apply Keeps.drew) | (with_reducible apply Keeps.alloc))) hk); have zc := KC.out.size; have zk := hk.size; (try simp at zk); clear HSL; replace KC := KC2; clear KC2; have sF_BF_0 : wy1.cell? ⟨b_BF, 0, none⟩ = some ((.int .i64 f.q)) := blk_cell (blk_keep BF.out KC.out (fun h => h)) 0; have sG_BF_0 : wy1.frozen? ⟨b_BF, 0, none⟩ = false := blk_free (blk_keep BF.out KC.out (fun h => h)) 0; have sF_BF_1 : wy1.cell? ⟨b_BF, 1, none⟩ = some ((.int .i64 i)) := blk_cell (blk_keep BF.out KC.out (fun h => h)) 1; have sG_BF_1 : wy1.frozen? ⟨b_BF, 1, none⟩ = false := blk_free (blk_keep BF.out KC.out (fun h => h)) 1; have sF_BF_2 : wy1.cell? ⟨b_BF, 2, none⟩ = some ((.bool f.u)) := blk_cell (blk_keep BF.out KC.out (fun h => h)) 2; have sG_BF_2 : wy1.frozen? ⟨b_BF, 2, none⟩ = false := blk_free (blk_keep BF.out KC.out (fun h => h)) 2; have sF_BF_3 : wy1.cell? ⟨b_BF, 3, none⟩ = some ((.slice a f.b.length c)) := blk_cell (blk_keep BF.out KC.out (fun h => h)) 3; have sG_BF_3 : wy1.frozen? ⟨b_BF, 3, none⟩ = false := blk_free (blk_keep BF.out KC.out (fun h => h)) 3; have sF_BF_4 : wy1.cell? ⟨b_BF, 4, none⟩ = some ((.int .u64 (f.t : Int))) := blk_cell (blk_keep BF.out KC.out (fun h => h)) 4; have sG_BF_4 : wy1.frozen? ⟨b_BF, 4, none⟩ = false := blk_free (blk_keep BF.out KC.out (fun h => h)) 4; have sF_BS_0 : wy1.cell? ⟨w.heap.size, 0, none⟩ = some ((.slice ba bn bc)) := blk_cell (blk_keep BS.out KC.out (fun h => h)) 0; have sG_BS_0 : wy1.frozen? ⟨w.heap.size, 0, none⟩ = false := blk_free (blk_keep BS.out KC.out (fun h => h)) 0; have sF_BS_1 : wy1.cell? ⟨w.heap.size, 1, none⟩ = some ((.int .i64 ac)) := blk_cell (blk_keep BS.out KC.out (fun h => h)) 1; have sG_BS_1 : wy1.frozen? ⟨w.heap.size, 1, none⟩ = false := blk_free (blk_keep BS.out KC.out (fun h => h)) 1; have sF_BS_2 : wy1.cell? ⟨w.heap.size, 2, none⟩ = some ((.int .u64 (k : Int))) := blk_cell (blk_keep BS.out KC.out (fun h => h)) 2; have sG_BS_2 : wy1.frozen? ⟨w.heap.size, 2, none⟩ = false := blk_free (blk_keep BS.out KC.out (fun h => h)) 2; have sF_BS_3 : wy1.cell? ⟨w.heap.size, 3, none⟩ = some ((.int .i64 i)) := blk_cell (blk_keep BS.out KC.out (fun h => h)) 3; have sG_BS_3 : wy1.frozen? ⟨w.heap.size, 3, none⟩ = false := blk_free (blk_keep BS.out KC.out (fun h => h)) 3; replace hk := hid hk))
    all_goals
      go_wp2_with fail
      go_meet
      exact ⟨hid (by repeat (first | (with_reducible refine LB_BF _ ?_) | (with_reducible refine blk_other ?_ (by first | omega | (simp only [World.size_alloc, World.size_drew]; omega)) _ _) | (with_reducible apply blk_drewN) | (with_reducible apply blk_drew) | (with_reducible refine blk_alloc ?_ _) | (with_reducible exact blk_keep BF.out KC.out (fun h => h)))), hid (by repeat (first | (with_reducible refine LB_BS _ ?_) | (with_reducible refine blk_other ?_ (by first | omega | (simp only [World.size_alloc, World.size_drew]; omega)) _ _) | (with_reducible apply blk_drewN) | (with_reducible apply blk_drew) | (with_reducible refine blk_alloc ?_ _) | (with_reducible exact blk_keep BS.out KC.out (fun h => h)))), hid (by repeat (first | (with_reducible refine Keeps.setCell (S := fun b => b = b_BF ∨ b = w.heap.size) ?_ (.inl (by simp)) _) | (with_reducible apply Keeps.drewN) | (with_reducible apply Keeps.drew) | (with_reducible exact KC.out) | (with_reducible exact Keeps.refl _ _) | (with_reducible exact KC.out.mono (fun _ _ h => h.elim))))⟩
  case rest =>
    obtain ⟨N_BF, N_BS, hk⟩ := hcut
    replace hk := hk.out
    generalize wc = W3 at *
    have HX' : Hd (Sl (fun b => b < w.heap.size) W3 (.slice a f.b.length c) (u8s f.b)) := hid (HX.out.keep hk (fun b _ h1 h2 => by omega))
    have BR1' : Hd (Blk W3 b_BR1 #[(.int .i64 0), (.int .i64 0), (.bool false), (.slice none 0 0), (.int .u64 0)] 25) := hid (blk_keep BR1.out hk (fun h => by omega))
    have BR2' : Hd (Blk W3 b_BR2 #[(.slice none 0 0), (.int .i64 0), (.int .u64 0), (.int .i64 0)] 57) := hid (blk_keep BR2.out hk (fun h => by omega))
    clear HX BR1 BR2
    have HX := HX'
    clear HX'
    have BR1 := BR1'
    clear BR1'
    have BR2 := BR2'
    clear BR2'
    clear BF
    have BF := N_BF
    clear N_BF
    clear BS
    have BS := N_BS
    clear N_BS
    have HK' : Hd (Keeps (fun _ => False) w W3) := hid (HK.out.trans' hk (fun i hi h => by omega))
    clear HK
    have HK := HK'
    clear HK'
    have z_W3 := hk.size
    clear hk
    clear HCS HCL
    go_upto_region 3 with fail
    go_cut [] from 20 to 21 (fun wx => Hd (Blk wx b_BR1 #[(.int .i64 f.q), (.int .i64 i), (.bool f.u), (.slice a f.b.length c), (.int .u64 (t : Int))] 25) ∧ Hd (Blk wx b_BR2 #[(.slice ba bn bc), (.int .i64 ac), (.int .u64 (s : Int)), (.int .i64 (i + 1))] 57) ∧ Hd (Keeps (fun b => b = b_BR1 ∨ b = b_BR2) W3 wx))
    case first =>
      have KC : Hd (Keeps (fun _ => False) W3 W3) := hid (Keeps.refl _ _)
      have HSS : Hd (∀ w', Keeps (fun b => b = b_BR1 ∨ b = b_BR2) W3 w' → (w'.cell? ⟨b_BF, 0, none⟩ = some ((.int .i64 f.q)) ∧ w'.cell? ⟨b_BF, 1, none⟩ = some ((.int .i64 i)) ∧ w'.cell? ⟨b_BF, 2, none⟩ = some ((.bool f.u)) ∧ w'.cell? ⟨b_BF, 3, none⟩ = some ((.slice a f.b.length c)) ∧ w'.cell? ⟨b_BF, 4, none⟩ = some ((.int .u64 (t : Int))) ∧ w'.cell? ⟨w.heap.size, 0, none⟩ = some ((.slice ba bn bc)) ∧ w'.cell? ⟨w.heap.size, 1, none⟩ = some ((.int .i64 ac)) ∧ w'.cell? ⟨w.heap.size, 2, none⟩ = some ((.int .u64 (s : Int))) ∧ w'.cell? ⟨w.heap.size, 3, none⟩ = some ((.int .i64 (i + 1))))) := hid (fun w' hk => ⟨blk_cell (blk_keep BF.out hk (fun h => by omega)) 0, blk_cell (blk_keep BF.out hk (fun h => by omega)) 1, blk_cell (blk_keep BF.out hk (fun h => by omega)) 2, blk_cell (blk_keep BF.out hk (fun h => by omega)) 3, blk_cell (blk_keep BF.out hk (fun h => by omega)) 4, blk_cell (blk_keep BS.out hk (fun h => by omega)) 0, blk_cell (blk_keep BS.out hk (fun h => by omega)) 1, blk_cell (blk_keep BS.out hk (fun h => by omega)) 2, blk_cell (blk_keep BS.out hk (fun h => by omega)) 3⟩)
      have sF_BR1_0 : W3.cell? ⟨b_BR1, 0, none⟩ = some ((.int .i64 0)) := blk_cell (blk_keep BR1.out KC.out (fun h => h)) 0
      have sG_BR1_0 : W3.frozen? ⟨b_BR1, 0, none⟩ = false := blk_free (blk_keep BR1.out KC.out (fun h => h)) 0
      have sF_BR1_1 : W3.cell? ⟨b_BR1, 1, none⟩ = some ((.int .i64 0)) := blk_cell (blk_keep BR1.out KC.out (fun h => h)) 1
      have sG_BR1_1 : W3.frozen? ⟨b_BR1, 1, none⟩ = false := blk_free (blk_keep BR1.out KC.out (fun h => h)) 1
      have sF_BR1_2 : W3.cell? ⟨b_BR1, 2, none⟩ = some ((.bool false)) := blk_cell (blk_keep BR1.out KC.out (fun h => h)) 2
      have sG_BR1_2 : W3.frozen? ⟨b_BR1, 2, none⟩ = false := blk_free (blk_keep BR1.out KC.out (fun h => h)) 2
      have sF_BR1_3 : W3.cell? ⟨b_BR1, 3, none⟩ = some ((.slice none 0 0)) := blk_cell (blk_keep BR1.out KC.out (fun h => h)) 3
      have sG_BR1_3 : W3.frozen? ⟨b_BR1, 3, none⟩ = false := blk_free (blk_keep BR1.out KC.out (fun h => h)) 3
      have sF_BR1_4 : W3.cell? ⟨b_BR1, 4, none⟩ = some ((.int .u64 0)) := blk_cell (blk_keep BR1.out KC.out (fun h => h)) 4
      have sG_BR1_4 : W3.frozen? ⟨b_BR1, 4, none⟩ = false := blk_free (blk_keep BR1.out KC.out (fun h => h)) 4
      have sF_BR2_0 : W3.cell? ⟨b_BR2, 0, none⟩ = some ((.slice none 0 0)) := blk_cell (blk_keep BR2.out KC.out (fun h => h)) 0
      have sG_BR2_0 : W3.frozen? ⟨b_BR2, 0, none⟩ = false := blk_free (blk_keep BR2.out KC.out (fun h => h)) 0
      have sF_BR2_1 : W3.cell? ⟨b_BR2, 1, none⟩ = some ((.int .i64 0)) := blk_cell (blk_keep BR2.out KC.out (fun h => h)) 1
      have sG_BR2_1 : W3.frozen? ⟨b_BR2, 1, none⟩ = false := blk_free (blk_keep BR2.out KC.out (fun h => h)) 1
      have sF_BR2_2 : W3.cell? ⟨b_BR2, 2, none⟩ = some ((.int .u64 0)) := blk_cell (blk_keep BR2.out KC.out (fun h => h)) 2
      have sG_BR2_2 : W3.frozen? ⟨b_BR2, 2, none⟩ = false := blk_free (blk_keep BR2.out KC.out (fun h => h)) 2
      have sF_BR2_3 : W3.cell? ⟨b_BR2, 3, none⟩ = some ((.int .i64 0)) := blk_cell (blk_keep BR2.out KC.out (fun h => h)) 3
      have sG_BR2_3 : W3.frozen? ⟨b_BR2, 3, none⟩ = false := blk_free (blk_keep BR2.out KC.out (fun h => h)) 3
      have sL_BF_0 : W3.cell? ⟨b_BF, 0, none⟩ = some ((.int .i64 f.q)) := blk_cell (blk_keep BF.out KC.out (fun h => h)) 0
      have sL_BF_1 : W3.cell? ⟨b_BF, 1, none⟩ = some ((.int .i64 i)) := blk_cell (blk_keep BF.out KC.out (fun h => h)) 1
      have sL_BF_2 : W3.cell? ⟨b_BF, 2, none⟩ = some ((.bool f.u)) := blk_cell (blk_keep BF.out KC.out (fun h => h)) 2
      have sL_BF_3 : W3.cell? ⟨b_BF, 3, none⟩ = some ((.slice a f.b.length c)) := blk_cell (blk_keep BF.out KC.out (fun h => h)) 3
      have sL_BF_4 : W3.cell? ⟨b_BF, 4, none⟩ = some ((.int .u64 (t : Int))) := blk_cell (blk_keep BF.out KC.out (fun h => h)) 4
      have sL_BS_0 : W3.cell? ⟨w.heap.size, 0, none⟩ = some ((.slice ba bn bc)) := blk_cell (blk_keep BS.out KC.out (fun h => h)) 0
      have sL_BS_1 : W3.cell? ⟨w.heap.size, 1, none⟩ = some ((.int .i64 ac)) := blk_cell (blk_keep BS.out KC.out (fun h => h)) 1
      have sL_BS_2 : W3.cell? ⟨w.heap.size, 2, none⟩ = some ((.int .u64 (s : Int))) := blk_cell (blk_keep BS.out KC.out (fun h => h)) 2
      have sL_BS_3 : W3.cell? ⟨w.heap.size, 3, none⟩ = some ((.int .i64 (i + 1))) := blk_cell (blk_keep BS.out KC.out (fun h => h)) 3
      have LB_BR1 : ∀ X, Blk X b_BR1 #[(.int .i64 0), (.int .i64 0), (.bool false), (.slice none 0 0), (.int .u64 0)] 25 → Blk (((((X.setCell ⟨b_BR1, 0, none⟩ (.int .i64 f.q)).setCell ⟨b_BR1, 1, none⟩ (.int .i64 i)).setCell ⟨b_BR1, 2, none⟩ (.bool f.u)).setCell ⟨b_BR1, 3, none⟩ (.slice a f.b.length c)).setCell ⟨b_BR1, 4, none⟩ (.int .u64 (t : Int))) b_BR1 #[(.int .i64 f.q), (.int .i64 i), (.bool f.u), (.slice a f.b.length c), (.int .u64 (t : Int))] 25 := fun X h => (blk_set (blk_set (blk_set (blk_set (blk_set h 0 _) 1 _) 2 _) 3 _) 4 _)
      have LO_BR2_BR1 : ∀ X cs T, Blk X b_BR1 cs T → Blk ((((X.setCell ⟨b_BR2, 0, none⟩ (.slice ba bn bc)).setCell ⟨b_BR2, 1, none⟩ (.int .i64 ac)).setCell ⟨b_BR2, 2, none⟩ (.int .u64 (s : Int))).setCell ⟨b_BR2, 3, none⟩ (.int .i64 (i + 1))) b_BR1 cs T := fun X cs T h => (blk_other (blk_other (blk_other (blk_other h (by omega) _ _) (by omega) _ _) (by omega) _ _) (by omega) _ _)
      have LB_BR2 : ∀ X, Blk X b_BR2 #[(.slice none 0 0), (.int .i64 0), (.int .u64 0), (.int .i64 0)] 57 → Blk ((((X.setCell ⟨b_BR2, 0, none⟩ (.slice ba bn bc)).setCell ⟨b_BR2, 1, none⟩ (.int .i64 ac)).setCell ⟨b_BR2, 2, none⟩ (.int .u64 (s : Int))).setCell ⟨b_BR2, 3, none⟩ (.int .i64 (i + 1))) b_BR2 #[(.slice ba bn bc), (.int .i64 ac), (.int .u64 (s : Int)), (.int .i64 (i + 1))] 57 := fun X h => (blk_set (blk_set (blk_set (blk_set h 0 _) 1 _) 2 _) 3 _)
      have LO_BR1_BR2 : ∀ X cs T, Blk X b_BR2 cs T → Blk (((((X.setCell ⟨b_BR1, 0, none⟩ (.int .i64 f.q)).setCell ⟨b_BR1, 1, none⟩ (.int .i64 i)).setCell ⟨b_BR1, 2, none⟩ (.bool f.u)).setCell ⟨b_BR1, 3, none⟩ (.slice a f.b.length c)).setCell ⟨b_BR1, 4, none⟩ (.int .u64 (t : Int))) b_BR2 cs T := fun X cs T h => (blk_other (blk_other (blk_other (blk_other (blk_other h (by omega) _ _) (by omega) _ _) (by omega) _ _) (by omega) _ _) (by omega) _ _)
      go_region
      all_goals
        go_wp2_with fail
        go_meet
        exact ⟨hid (by repeat (first | (with_reducible refine LB_BR1 _ ?_) | (with_reducible refine blk_other ?_ (by first | omega | (simp only [World.size_alloc, World.size_drew]; omega)) _ _) | (with_reducible apply blk_drewN) | (with_reducible apply blk_drew) | (with_reducible refine blk_alloc ?_ _) | (with_reducible exact blk_keep BR1.out KC.out (fun h => h)))), hid (by repeat (first | (with_reducible refine LB_BR2 _ ?_) | (with_reducible refine blk_other ?_ (by first | omega | (simp only [World.size_alloc, World.size_drew]; omega)) _ _) | (with_reducible apply blk_drewN) | (with_reducible apply blk_drew) | (with_reducible refine blk_alloc ?_ _) | (with_reducible exact blk_keep BR2.out KC.out (fun h => h)))), hid (by repeat (first | (with_reducible refine Keeps.setCell (S := fun b => b = b_BR1 ∨ b = b_BR2) ?_ (.inl (by simp)) _) | (with_reducible apply Keeps.drewN) | (with_reducible apply Keeps.drew) | (with_reducible exact KC.out) | (with_reducible exact Keeps.refl _ _) | (with_reducible exact KC.out.mono (fun _ _ h => h.elim))))⟩
    case rest =>
      obtain ⟨N_BR1, N_BR2, hk⟩ := hcut
      replace hk := hk.out
      generalize wc = W4 at *
      have HX' : Hd (Sl (fun b => b < w.heap.size) W4 (.slice a f.b.length c) (u8s f.b)) := hid (HX.out.keep hk (fun b _ h1 h2 => by omega))
      have BS' : Hd (Blk W4 w.heap.size #[(.slice ba bn bc), (.int .i64 ac), (.int .u64 (s : Int)), (.int .i64 (i + 1))] 57) := hid (blk_keep BS.out hk (fun h => by omega))
      have BF' : Hd (Blk W4 b_BF #[(.int .i64 f.q), (.int .i64 i), (.bool f.u), (.slice a f.b.length c), (.int .u64 (t : Int))] 25) := hid (blk_keep BF.out hk (fun h => by omega))
      clear HX BS BF
      have HX := HX'
      clear HX'
      have BS := BS'
      clear BS'
      have BF := BF'
      clear BF'
      clear BR1
      have BR1 := N_BR1
      clear N_BR1
      clear BR2
      have BR2 := N_BR2
      clear N_BR2
      have HK' : Hd (Keeps (fun _ => False) w W4) := hid (HK.out.trans' hk (fun i hi h => by omega))
      clear HK
      have HK := HK'
      clear HK'
      have z_W4 := hk.size
      clear hk
      go_wp2
      have rr_BR1_0 := blk_cell BR1.out 0
      have rr_BR1_1 := blk_cell BR1.out 1
      have rr_BR1_2 := blk_cell BR1.out 2
      have rr_BR1_3 := blk_cell BR1.out 3
      have rr_BR1_4 := blk_cell BR1.out 4
      have rr_BR2_0 := blk_cell BR2.out 0
      have rr_BR2_1 := blk_cell BR2.out 1
      have rr_BR2_2 := blk_cell BR2.out 2
      have rr_BR2_3 := blk_cell BR2.out 3
      refine bodyPost_ret (v := .tuple #[.agg #[(.int .i64 f.q), (.int .i64 i), (.bool f.u), (.slice a f.b.length c), (.int .u64 (t : Int))], .agg #[(.slice ba bn bc), (.int .i64 ac), (.int .u64 (s : Int)), (.int .i64 (i + 1))]]) (by simp [results, Tryd.results75, go_sem, rr_BR1_0, rr_BR1_1, rr_BR1_2, rr_BR1_3, rr_BR1_4, rr_BR2_0, rr_BR2_1, rr_BR2_2, rr_BR2_3]) rfl ?_
      exact ⟨rfl, HK.out⟩
end Go.Proofs.YthoikljmokkchaaDoor
namespace Go.Proofs.YthoikljmokkchaaDoor
open Go.RowKit
theorem fin4 {w W : World} {b : Nat} {T : TypeId} {c0 c1 c2 c3 : Value} (hk : Keeps (fun _ => False) w W) (hb : w.heap.size ≤ b) (hB : Blk W b #[c0, c1, c2, c3] T) (u0 u1 u2 u3 : Value) :
    Keeps (fun _ => False) w ((((W.setCell ⟨b, 0, none⟩ u0).setCell ⟨b, 1, none⟩ u1).setCell ⟨b, 2, none⟩ u2).setCell ⟨b, 3, none⟩ u3) ∧
    Blk ((((W.setCell ⟨b, 0, none⟩ u0).setCell ⟨b, 1, none⟩ u1).setCell ⟨b, 2, none⟩ u2).setCell ⟨b, 3, none⟩ u3) b #[u0, u1, u2, u3] T := by
  have h := blk_set (blk_set (blk_set (blk_set hB 0 u0) 1 u1) 2 u2) 3 u3
  simp only [List.setIfInBounds_toArray, List.set_cons_zero, List.set_cons_succ] at h
  exact ⟨(((hk.setCell (.inr hb) _).setCell (.inr hb) _).setCell (.inr hb) _).setCell (.inr hb) _, h⟩
theorem keep4 (w : World) (b : Nat) (u0 u1 u2 u3 : Value) : Keeps (fun i => i = b) w ((((w.setCell ⟨b, 0, none⟩ u0).setCell ⟨b, 1, none⟩ u1).setCell ⟨b, 2, none⟩ u2).setCell ⟨b, 3, none⟩ u3) :=
  keq (keq (keq (keq (Keeps.refl _ _) _ _) _ _) _ _) _ _
theorem bdp_lt {KD : Nat → Prop} {B : Nat} {w : World} {v : Value} {l : List (List Nat)} (h : BdP KD B w v l) : ∀ b, v.ownBlock = some b → b < w.heap.size := fun b hb => by
  obtain ⟨xs, hO, _⟩ := h
  rcases hO.1.2 with ⟨h, _⟩ | ⟨g, cap, cur, h, _, h3, _⟩
  · rw [h] at hb; simp [Value.ownBlock] at hb
  · rw [h] at hb; injection hb with hb; subst hb; exact (Array.getElem?_eq_some_iff.1 h3).1
structure Sd where
  bs : List (List Nat)
  a : Int
  l : Ld
structure Sd.ok (s : Sd) : Prop where
  n : s.bs.length ≤ 100000
  b : ∀ x ∈ s.bs, x.length ≤ 512 ∧ ∀ c ∈ x, c < 256
  a0 : 0 ≤ s.a
  a1 : s.a ≤ s.bs.length
  l : s.l.ok
theorem NewSender_any (k : Nat) (w : World) : Calls Tryd.prog 35 #[.int .u64 (k : Int)] w fun e w' => e = .returned (.agg #[(.slice none 0 0), (.int .i64 0), (.int .u64 (k : Int)), (.int .i64 0)]) ∧ Keeps (fun _ => False) w w' := by
  go_enter Tryd.func35, Tryd.ntmps35
  go_upto_region 1 with fail
  generalize hW : World.alloc w _ = W1
  have KS : Hd (Keeps (fun _ => False) w W1) := hid (by rw [← hW]; exact (Keeps.alloc (Keeps.refl (fun _ => False) w) _))
  have BR : Hd (Blk W1 w.heap.size #[(.slice none 0 0), (.int .i64 0), (.int .u64 0), (.int .i64 0)] 57) := hid (by rw [← hW]; exact (blk_new _ _ _))
  have HK : Hd (Keeps (fun _ => False) w W1) := hid KS.out
  have z_W1 : w.heap.size + 1 ≤ W1.heap.size := by rw [← hW]; simp
  clear hW KS
  go_wp2_with fail
  refine (LNew_any k _).mono ?_
  rintro e W2 ⟨rfl, hk⟩
  have BR' : Hd (Blk W2 w.heap.size #[(.slice none 0 0), (.int .i64 0), (.int .u64 0), (.int .i64 0)] 57) := hid (blk_keep BR.out hk (fun h => h))
  clear BR
  have BR := BR'
  clear BR'
  have HK' : Hd (Keeps (fun _ => False) w W2) := hid (HK.out.trans hk)
  clear HK
  have HK := HK'
  clear HK'
  have z_W2 := hk.size
  clear hk
  have o_BR_0 : W2.cell? ⟨w.heap.size, 0, none⟩ = some ((.slice none 0 0)) := blk_cell BR.out 0
  have o_BR_1 : W2.cell? ⟨w.heap.size, 1, none⟩ = some ((.int .i64 0)) := blk_cell BR.out 1
  have o_BR_2 : W2.cell? ⟨w.heap.size, 2, none⟩ = some ((.int .u64 0)) := blk_cell BR.out 2
  have o_BR_3 : W2.cell? ⟨w.heap.size, 3, none⟩ = some ((.int .i64 0)) := blk_cell BR.out 3
  have f_BR_0 : W2.frozen? ⟨w.heap.size, 0, none⟩ = false := blk_free BR.out 0
  have f_BR_1 : W2.frozen? ⟨w.heap.size, 1, none⟩ = false := blk_free BR.out 1
  have f_BR_2 : W2.frozen? ⟨w.heap.size, 2, none⟩ = false := blk_free BR.out 2
  have f_BR_3 : W2.frozen? ⟨w.heap.size, 3, none⟩ = false := blk_free BR.out 3
  go_wp2
  clear o_BR_0 o_BR_1 o_BR_2 o_BR_3 f_BR_0 f_BR_1 f_BR_2 f_BR_3
  obtain ⟨HV2, B3⟩ := fin4 HK.out (show w.heap.size ≤ w.heap.size by omega) BR.out (.slice none 0 0) (.int .i64 0) (.int .u64 (k : Int)) (.int .i64 0)
  have r0 := blk_cell B3 0
  have r1 := blk_cell B3 1
  have r2 := blk_cell B3 2
  have r3 := blk_cell B3 3
  refine bodyPost_ret (v := .agg #[(.slice none 0 0), (.int .i64 0), (.int .u64 (k : Int)), (.int .i64 0)]) (by simp [results, Tryd.results35, go_sem, r0, r1, r2, r3]) rfl ?_
  exact ⟨rfl, HV2⟩
theorem fin5 {w W : World} {b : Nat} {T : TypeId} {c0 c1 c2 c3 c4 : Value} (hk : Keeps (fun _ => False) w W) (hb : w.heap.size ≤ b) (hB : Blk W b #[c0, c1, c2, c3, c4] T) (u0 u1 u2 u3 u4 : Value) :
    Keeps (fun _ => False) w (((((W.setCell ⟨b, 0, none⟩ u0).setCell ⟨b, 1, none⟩ u1).setCell ⟨b, 2, none⟩ u2).setCell ⟨b, 3, none⟩ u3).setCell ⟨b, 4, none⟩ u4) ∧
    Blk (((((W.setCell ⟨b, 0, none⟩ u0).setCell ⟨b, 1, none⟩ u1).setCell ⟨b, 2, none⟩ u2).setCell ⟨b, 3, none⟩ u3).setCell ⟨b, 4, none⟩ u4) b #[u0, u1, u2, u3, u4] T := by
  have h := blk_set (blk_set (blk_set (blk_set (blk_set hB 0 u0) 1 u1) 2 u2) 3 u3) 4 u4
  simp only [List.setIfInBounds_toArray, List.set_cons_zero, List.set_cons_succ] at h
  exact ⟨((((hk.setCell (.inr hb) _).setCell (.inr hb) _).setCell (.inr hb) _).setCell (.inr hb) _).setCell (.inr hb) _, h⟩
theorem keep5 (w : World) (b : Nat) (u0 u1 u2 u3 u4 : Value) : Keeps (fun i => i = b) w (((((w.setCell ⟨b, 0, none⟩ u0).setCell ⟨b, 1, none⟩ u1).setCell ⟨b, 2, none⟩ u2).setCell ⟨b, 3, none⟩ u3).setCell ⟨b, 4, none⟩ u4) :=
  keq (keq (keq (keq (keq (Keeps.refl _ _) _ _) _ _) _ _) _ _) _ _
theorem NewReceiver_any (k : Nat) (w : World) : Calls Tryd.prog 19 #[.int .u64 (k : Int)] w fun e w' => e = .returned (.agg #[(.int .i64 0), (.slice none 0 0), (.bool false), (.int .u64 (k : Int)), (.int .i64 0)]) ∧ Keeps (fun _ => False) w w' := by
  go_enter Tryd.func19, Tryd.ntmps19
  go_upto_region 1 with fail
  generalize hW : World.alloc w _ = W1
  have KS : Hd (Keeps (fun _ => False) w W1) := hid (by rw [← hW]; exact (Keeps.alloc (Keeps.refl (fun _ => False) w) _))
  have BR : Hd (Blk W1 w.heap.size #[(.int .i64 0), (.slice none 0 0), (.bool false), (.int .u64 0), (.int .i64 0)] 35) := hid (by rw [← hW]; exact (blk_new _ _ _))
  have HK : Hd (Keeps (fun _ => False) w W1) := hid KS.out
  have z_W1 : w.heap.size + 1 ≤ W1.heap.size := by rw [← hW]; simp
  clear hW KS
  go_wp2_with fail
  refine (LNew_any k _).mono ?_
  rintro e W2 ⟨rfl, hk⟩
  have BR' : Hd (Blk W2 w.heap.size #[(.int .i64 0), (.slice none 0 0), (.bool false), (.int .u64 0), (.int .i64 0)] 35) := hid (blk_keep BR.out hk (fun h => h))
  clear BR
  have BR := BR'
  clear BR'
  have HK' : Hd (Keeps (fun _ => False) w W2) := hid (HK.out.trans hk)
  clear HK
  have HK := HK'
  clear HK'
  have z_W2 := hk.size
  clear hk
  have o_BR_0 : W2.cell? ⟨w.heap.size, 0, none⟩ = some ((.int .i64 0)) := blk_cell BR.out 0
  have o_BR_1 : W2.cell? ⟨w.heap.size, 1, none⟩ = some ((.slice none 0 0)) := blk_cell BR.out 1
  have o_BR_2 : W2.cell? ⟨w.heap.size, 2, none⟩ = some ((.bool false)) := blk_cell BR.out 2
  have o_BR_3 : W2.cell? ⟨w.heap.size, 3, none⟩ = some ((.int .u64 0)) := blk_cell BR.out 3
  have o_BR_4 : W2.cell? ⟨w.heap.size, 4, none⟩ = some ((.int .i64 0)) := blk_cell BR.out 4
  have f_BR_0 : W2.frozen? ⟨w.heap.size, 0, none⟩ = false := blk_free BR.out 0
  have f_BR_1 : W2.frozen? ⟨w.heap.size, 1, none⟩ = false := blk_free BR.out 1
  have f_BR_2 : W2.frozen? ⟨w.heap.size, 2, none⟩ = false := blk_free BR.out 2
  have f_BR_3 : W2.frozen? ⟨w.heap.size, 3, none⟩ = false := blk_free BR.out 3
  have f_BR_4 : W2.frozen? ⟨w.heap.size, 4, none⟩ = false := blk_free BR.out 4
  go_wp2
  clear o_BR_0 o_BR_1 o_BR_2 o_BR_3 o_BR_4 f_BR_0 f_BR_1 f_BR_2 f_BR_3 f_BR_4
  obtain ⟨HV2, B3⟩ := fin5 HK.out (show w.heap.size ≤ w.heap.size by omega) BR.out (.int .i64 0) (.slice none 0 0) (.bool false) (.int .u64 (k : Int)) (.int .i64 0)
  have r0 := blk_cell B3 0
  have r1 := blk_cell B3 1
  have r2 := blk_cell B3 2
  have r3 := blk_cell B3 3
  have r4 := blk_cell B3 4
  refine bodyPost_ret (v := .agg #[(.int .i64 0), (.slice none 0 0), (.bool false), (.int .u64 (k : Int)), (.int .i64 0)]) (by simp [results, Tryd.results19, go_sem, r0, r1, r2, r3, r4]) rfl ?_
  exact ⟨rfl, HV2⟩
set_option maxRecDepth 100000 in set_option maxHeartbeats 1000000 in
theorem Queue_ok (bs : List (List Nat)) (ba : Option Addr) (bc : Nat) (ac : Int) (k : Nat) (i : Int) (body : List Nat) (K K2 : Nat → Prop) (a : Option Addr) (c : Nat) (w : World) (hv : Bds K w (.slice ba bs.length bc) bs) (hn : bs.length ≤ 100000) (hx : ∀ x ∈ bs, x.length ≤ 512) (hb : body.length ≤ 512) (hs : Sl K2 w (.slice a body.length c) (u8s body)) :
    Calls Tryd.prog 32 #[.agg #[.slice ba bs.length bc, .int .i64 ac, .int .u64 (k : Int), .int .i64 i], .slice a body.length c] w fun e w' => ∃ a2 c2, e = .returned (.tuple #[.agg #[.slice a2 (bs.length + 1) c2, .int .i64 ac, .int .u64 (k : Int), .int .i64 i], .int .i64 0]) ∧ Bds (fun b => w.heap.size ≤ b) w' (.slice a2 (bs.length + 1) c2) (bs ++ [body]) ∧ Keeps (fun _ => False) w w' := by
  obtain ⟨i0, hi, hz0, hz1, hz2⟩ := parts1 infoBd
  have HV := hid (hv.mono (K' := fun b => b < w.heap.size) (fun b h _ => h)); have HX := hid hx
  have HS := hid (hs.mono (K' := fun b => b < w.heap.size) (fun b h _ => h))
  clear hv hx hs
  obtain ⟨n, hnn⟩ : ∃ n, bs.length = n := ⟨_, rfl⟩
  have HN := hid hnn
  rw [hnn] at HV hn ⊢
  clear hnn
  obtain ⟨m, hm⟩ : ∃ m, body.length = m := ⟨_, rfl⟩
  have HM := hid hm
  rw [hm] at HS hb ⊢
  clear hm
  have q0 : ¬ ((512 : Int) < m) := by omega
  go_enter Tryd.func32, Tryd.ntmps32
  go_upto_region 1 with fail
  generalize hW : World.alloc (World.alloc w _) _ = W1
  have KS : Hd (Keeps (fun _ => False) w W1) := hid (by rw [← hW]; exact (Keeps.alloc (Keeps.alloc (Keeps.refl (fun _ => False) w) _) _))
  have HV' : Hd (Bds (fun b => b < w.heap.size) W1 (.slice ba n bc) bs) := hid (HV.out.keep KS.out (fun _ _ _ h => h))
  have HS' : Hd (Sl (fun b => b < w.heap.size) W1 (.slice a m c) (u8s body)) := hid (HS.out.keep KS.out (fun _ _ _ h => h))
  have BS : Hd (Blk W1 w.heap.size #[(.slice ba n bc), (.int .i64 ac), (.int .u64 (k : Int)), (.int .i64 i)] 57) := hid (by rw [← hW]; exact (blk_alloc (blk_new _ _ _) _))
  have BR : Hd (Blk W1 (w.heap.size + 1) #[(.slice none 0 0), (.int .i64 0), (.int .u64 0), (.int .i64 0)] 57) := hid (by rw [← hW]; exact (blk_new' _ _ _ _ (by simp)))
  clear HV HS
  have HV := HV'
  clear HV'
  have HS := HS'
  clear HS'
  have HK : Hd (Keeps (fun _ => False) w W1) := hid KS.out
  have z_W1 : w.heap.size + 2 ≤ W1.heap.size := by rw [← hW]; simp
  clear hW KS
  have o_BS_0 : W1.cell? ⟨w.heap.size, 0, none⟩ = some ((.slice ba n bc)) := blk_cell BS.out 0
  go_wp2_with fail
  refine (cloned_any _ _ bs _ HV.out (by rw [HN.out]; omega) (fun x hx => by have := HX.out x hx; omega)).mono ?_
  rw [HN.out]
  rintro e W2 ⟨a2, c2, rfl, hp, hk⟩
  have HP := hid hp
  have HPL := hid hp
  clear hp
  clear o_BS_0
  have HV' : Hd (Bds (fun b => b < w.heap.size) W2 (.slice ba n bc) bs) := hid (HV.out.keep hk (fun _ _ _ h => h))
  have HS' : Hd (Sl (fun b => b < w.heap.size) W2 (.slice a m c) (u8s body)) := hid (HS.out.keep hk (fun _ _ _ h => h))
  have BS' : Hd (Blk W2 w.heap.size #[(.slice ba n bc), (.int .i64 ac), (.int .u64 (k : Int)), (.int .i64 i)] 57) := hid (blk_keep BS.out hk (fun h => h))
  have BR' : Hd (Blk W2 (w.heap.size + 1) #[(.slice none 0 0), (.int .i64 0), (.int .u64 0), (.int .i64 0)] 57) := hid (blk_keep BR.out hk (fun h => h))
  clear HV HS BS BR
  have HV := HV'
  clear HV'
  have HS := HS'
  clear HS'
  have BS := BS'
  clear BS'
  have BR := BR'
  clear BR'
  have HK' : Hd (Keeps (fun _ => False) w W2) := hid (HK.out.trans hk)
  clear HK
  have HK := HK'
  clear HK'
  have z_W2 := hk.size
  clear hk
  go_wp2_with fail
  refine (Wi.CloneB_any _ _ body _ HS.out (by rw [HM.out]; omega)).mono ?_
  rintro e W3 ⟨a4, n4, c4, rfl, hn4, ho4, hk⟩
  have HS4 : Hd (Sl (fun b => W2.heap.size ≤ b) _ (.slice a4 n4 c4) (u8s body)) := hid (row_sl ho4.row hn4.symm)
  clear hn4 ho4
  have HV' : Hd (Bds (fun b => b < w.heap.size) W3 (.slice ba n bc) bs) := hid (HV.out.keep hk (fun _ _ _ h => h))
  have HS' : Hd (Sl (fun b => b < w.heap.size) W3 (.slice a m c) (u8s body)) := hid (HS.out.keep hk (fun _ _ _ h => h))
  have BS' : Hd (Blk W3 w.heap.size #[(.slice ba n bc), (.int .i64 ac), (.int .u64 (k : Int)), (.int .i64 i)] 57) := hid (blk_keep BS.out hk (fun h => h))
  have BR' : Hd (Blk W3 (w.heap.size + 1) #[(.slice none 0 0), (.int .i64 0), (.int .u64 0), (.int .i64 0)] 57) := hid (blk_keep BR.out hk (fun h => h))
  have HP' : Hd (BdP (fun b => W1.heap.size ≤ b) W1.heap.size W3 (.slice a2 n c2) bs) := hid (HP.out.keep hk (fun _ _ _ h => h))
  clear HV HS BS BR HP
  have HV := HV'
  clear HV'
  have HS := HS'
  clear HS'
  have BS := BS'
  clear BS'
  have BR := BR'
  clear BR'
  have HP := HP'
  clear HP'
  have HK' : Hd (Keeps (fun _ => False) w W3) := hid (HK.out.trans hk)
  clear HK
  have HK := HK'
  clear HK'
  have z_W3 := hk.size
  clear hk
  have o_BS_0 : W3.cell? ⟨w.heap.size, 0, none⟩ = some ((.slice ba n bc)) := blk_cell BS.out 0
  have f_BS_0 : W3.frozen? ⟨w.heap.size, 0, none⟩ = false := blk_free BS.out 0
  obtain ⟨xs, hO, hge, hB⟩ := HP.out
  have hltO : ∀ b, (Value.slice a2 n c2).ownBlock = some b → b < W2.heap.size := bdp_lt HPL.out
  rw [HN.out] at hO
  have HOX := hid hO; have HGE := hid hge; have HBX := hid hB; have HLT := hid hltO
  clear hO hge hB hltO
  go_wp2_with (at_builtin; refine wpList_append_row rfl _ _ 43 rfl 22 i0 (.slice none 0 0) 1 24 Tryd.underlying43 hi hz0 hz1 hz2 rfl (by decide) _ (fun _ => True) _ _ _ _ rfl (HOX.out.alloc _) 1 _ rfl (one_src _ _ _) (by intro u hu; simp at hu; subst hu; rfl) ?h1 ?h2 ?_)
  case h1 => simp [maxLen]; omega
  case h2 => omega
  intro a3 c3 w1 hown hgrow; try intro _
  have HO1 : Hd (BdP (fun b => W1.heap.size ≤ b) W1.heap.size w1 (.slice a3 (n + 1) c3) (bs ++ [body])) := hid (by
    refine bdp_append (v := .slice a2 n c2) (ns := [.slice a4 n4 c4]) HGE.out HBX.out (keeps_alloc _ _ (.cells #[.slice a4 n4 c4] 22)) (BdL.one ((HS4.out.keep (keeps_alloc (fun _ => False) _ _) (fun _ _ _ h => h)).mono (fun b _ h => ⟨by omega, fun e => by have := HLT.out b e; omega⟩))) (by simp; omega) ?_ (by first | exact hgrow | exact hgrow.mono (fun _ _ h => h))
    rw [HN.out]
    first | exact hown | simpa using hown)
  have hk : Keeps (fun b => W1.heap.size ≤ b) W3 w1 := ((keeps_alloc _ _ (.cells #[.slice a4 n4 c4] 22)).trans hgrow).mono (fun b _ h => HGE.out b h)
  clear hown hgrow HP HPL HOX HBX HS4
  clear o_BS_0 f_BS_0
  have HV' : Hd (Bds (fun b => b < w.heap.size) w1 (.slice ba n bc) bs) := hid (HV.out.keep hk (fun b h1 h2 h3 => by omega))
  have HS' : Hd (Sl (fun b => b < w.heap.size) w1 (.slice a m c) (u8s body)) := hid (HS.out.keep hk (fun b h1 h2 h3 => by omega))
  have BS' : Hd (Blk w1 w.heap.size #[(.slice ba n bc), (.int .i64 ac), (.int .u64 (k : Int)), (.int .i64 i)] 57) := hid (blk_keep BS.out hk (fun h => by omega))
  have BR' : Hd (Blk w1 (w.heap.size + 1) #[(.slice none 0 0), (.int .i64 0), (.int .u64 0), (.int .i64 0)] 57) := hid (blk_keep BR.out hk (fun h => by omega))
  clear HV HS BS BR
  have HV := HV'
  clear HV'
  have HS := HS'
  clear HS'
  have BS := BS'
  clear BS'
  have BR := BR'
  clear BR'
  have HK' : Hd (Keeps (fun _ => False) w w1) := hid (HK.out.trans' hk (fun i hi h => by omega))
  clear HK
  have HK := HK'
  clear HK'
  have z_w1 := hk.size
  clear hk
  have o_BS_0 : w1.cell? ⟨w.heap.size, 0, none⟩ = some ((.slice ba n bc)) := blk_cell BS.out 0
  have o_BS_1 : w1.cell? ⟨w.heap.size, 1, none⟩ = some ((.int .i64 ac)) := blk_cell BS.out 1
  have o_BS_2 : w1.cell? ⟨w.heap.size, 2, none⟩ = some ((.int .u64 (k : Int))) := blk_cell BS.out 2
  have o_BS_3 : w1.cell? ⟨w.heap.size, 3, none⟩ = some ((.int .i64 i)) := blk_cell BS.out 3
  have f_BS_0 : w1.frozen? ⟨w.heap.size, 0, none⟩ = false := blk_free BS.out 0
  have f_BS_1 : w1.frozen? ⟨w.heap.size, 1, none⟩ = false := blk_free BS.out 1
  have f_BS_2 : w1.frozen? ⟨w.heap.size, 2, none⟩ = false := blk_free BS.out 2
  have f_BS_3 : w1.frozen? ⟨w.heap.size, 3, none⟩ = false := blk_free BS.out 3
  go_upto_region 4 with fail
  clear o_BS_0 o_BS_1 o_BS_2 o_BS_3 f_BS_0 f_BS_1 f_BS_2 f_BS_3
  generalize hW : World.setCell w1 _ _ = W4
  have KS : Hd (Keeps (fun b => b = w.heap.size) w1 W4) := hid (by rw [← hW]; exact (Keeps.setCell (S := fun b => b = w.heap.size) (Keeps.refl (fun b => b = w.heap.size) w1) (.inl rfl) _))
  have HV' : Hd (Bds (fun b => b < w.heap.size) W4 (.slice ba n bc) bs) := hid (HV.out.keep KS.out (fun b _ h1 h2 => by omega))
  have HS' : Hd (Sl (fun b => b < w.heap.size) W4 (.slice a m c) (u8s body)) := hid (HS.out.keep KS.out (fun b _ h1 h2 => by omega))
  have BS' : Hd (Blk W4 w.heap.size #[(.slice a3 (n + 1) c3), (.int .i64 ac), (.int .u64 (k : Int)), (.int .i64 i)] 57) := hid (by rw [← hW]; exact (blk_set BS.out 0 _))
  have BR' : Hd (Blk W4 (w.heap.size + 1) #[(.slice none 0 0), (.int .i64 0), (.int .u64 0), (.int .i64 0)] 57) := hid (by rw [← hW]; exact (blk_other BR.out (by omega) _ _))
  have HO1' : Hd (BdP (fun b => W1.heap.size ≤ b) W1.heap.size W4 (.slice a3 (n + 1) c3) (bs ++ [body])) := hid (HO1.out.keep KS.out (fun b _ h1 h2 => by omega))
  clear HV HS BS BR HO1
  have HV := HV'
  clear HV'
  have HS := HS'
  clear HS'
  have BS := BS'
  clear BS'
  have BR := BR'
  clear BR'
  have HO1 := HO1'
  clear HO1'
  have HK' : Hd (Keeps (fun _ => False) w W4) := hid (HK.out.trans' KS.out (fun i hi h => by omega))
  clear HK
  have HK := HK'
  clear HK'
  have z_W4 : w1.heap.size + 0 ≤ W4.heap.size := by rw [← hW]; simp
  clear hW KS
  have o_BS_0 : W4.cell? ⟨w.heap.size, 0, none⟩ = some ((.slice a3 (n + 1) c3)) := blk_cell BS.out 0
  have o_BS_1 : W4.cell? ⟨w.heap.size, 1, none⟩ = some ((.int .i64 ac)) := blk_cell BS.out 1
  have o_BS_2 : W4.cell? ⟨w.heap.size, 2, none⟩ = some ((.int .u64 (k : Int))) := blk_cell BS.out 2
  have o_BS_3 : W4.cell? ⟨w.heap.size, 3, none⟩ = some ((.int .i64 i)) := blk_cell BS.out 3
  have o_BR_0 : W4.cell? ⟨w.heap.size + 1, 0, none⟩ = some ((.slice none 0 0)) := blk_cell BR.out 0
  have o_BR_1 : W4.cell? ⟨w.heap.size + 1, 1, none⟩ = some ((.int .i64 0)) := blk_cell BR.out 1
  have o_BR_2 : W4.cell? ⟨w.heap.size + 1, 2, none⟩ = some ((.int .u64 0)) := blk_cell BR.out 2
  have o_BR_3 : W4.cell? ⟨w.heap.size + 1, 3, none⟩ = some ((.int .i64 0)) := blk_cell BR.out 3
  have f_BR_0 : W4.frozen? ⟨w.heap.size + 1, 0, none⟩ = false := blk_free BR.out 0
  have f_BR_1 : W4.frozen? ⟨w.heap.size + 1, 1, none⟩ = false := blk_free BR.out 1
  have f_BR_2 : W4.frozen? ⟨w.heap.size + 1, 2, none⟩ = false := blk_free BR.out 2
  have f_BR_3 : W4.frozen? ⟨w.heap.size + 1, 3, none⟩ = false := blk_free BR.out 3
  go_wp2
  clear o_BS_0 o_BS_1 o_BS_2 o_BS_3 o_BR_0 o_BR_1 o_BR_2 o_BR_3 f_BR_0 f_BR_1 f_BR_2 f_BR_3
  obtain ⟨HV2, B3⟩ := fin4 HK.out (show w.heap.size ≤ w.heap.size + 1 by omega) BR.out (.slice a3 (n + 1) c3) (.int .i64 ac) (.int .u64 (k : Int)) (.int .i64 i)
  have r0 := blk_cell B3 0
  have r1 := blk_cell B3 1
  have r2 := blk_cell B3 2
  have r3 := blk_cell B3 3
  refine bodyPost_ret (v := .tuple #[.agg #[(.slice a3 (n + 1) c3), (.int .i64 ac), (.int .u64 (k : Int)), (.int .i64 i)], .int .i64 0]) (by simp [results, Tryd.results32, go_sem, r0, r1, r2, r3]) rfl ?_
  exact ⟨a3, c3, rfl, ((HO1.out.bds.keep (keep4 _ (w.heap.size + 1) (.slice a3 (n + 1) c3) (.int .i64 ac) (.int .u64 (k : Int)) (.int .i64 i)) (fun b h1 h2 h3 => by subst h3; rcases h2 with h2 | h2 <;> omega)).mono (fun b _ h => by rcases h with h | h <;> omega)), HV2⟩
end Go.Proofs.YthoikljmokkchaaDoor
namespace Go.Proofs.YthoikljmokkchaaDoor
open Go.RowKit
attribute [local go_sem ↓] Go.wp_at_zero Go.wp_at_succ
theorem sl_new {Y w : World} {v : Value} {xs : List Value} (h : Sl (fun k => Y.heap.size ≤ k) w v xs) (B : Nat) (hB : B ≤ Y.heap.size) : B ≤ Y.heap.size ∧ ∀ X, Keeps (fun b => b < Y.heap.size ∨ w.heap.size ≤ b) w X → Sl (fun b => Y.heap.size ≤ b ∧ b < w.heap.size) X v xs :=
  ⟨hB, fun X hx => (h.mono (K' := fun b => Y.heap.size ≤ b ∧ b < w.heap.size) (fun b hb hh => ⟨hh, hb⟩)).keep hx (fun b _ h1 h2 => by omega)⟩
structure EmFin (W3 wy X : World) (bS c : Nat) (F : Array Value) (TF : TypeId) (N : Array Value) (TS : TypeId) : Prop where
  f : Blk X c F TF
  s : Blk X bS N TS
  k : Keeps (fun i => i = bS) W3 X
  k1 : Keeps (fun i => i = bS ∨ i = c ∨ wy.heap.size ≤ i) wy X
theorem emA {W3 wy : World} {bS c : Nat} {TF TS : TypeId} {z0 z1 z2 z3 z4 f0 f1 f2 f3 f4 o0 o1 o2 o3 n0 n1 n2 n3 : Value} (h : Keeps (fun _ => False) W3 wy) (hS : Blk wy bS #[o0, o1, o2, o3] TS) (hF : Blk wy c #[z0, z1, z2, z3, z4] TF) (hne : c ≠ bS) (hle : W3.heap.size ≤ c) :
    EmFin W3 wy (((((((((wy.setCell ⟨c, 0, none⟩ f0).setCell ⟨c, 1, none⟩ f1).setCell ⟨c, 2, none⟩ f2).setCell ⟨c, 3, none⟩ f3).setCell ⟨c, 4, none⟩ f4).setCell ⟨bS, 0, none⟩ n0).setCell ⟨bS, 1, none⟩ n1).setCell ⟨bS, 2, none⟩ n2).setCell ⟨bS, 3, none⟩ n3) bS c #[f0, f1, f2, f3, f4] TF #[n0, n1, n2, n3] TS := by
  have kF := keep5 wy c f0 f1 f2 f3 f4
  have kS := keep4 (((((wy.setCell ⟨c, 0, none⟩ f0).setCell ⟨c, 1, none⟩ f1).setCell ⟨c, 2, none⟩ f2).setCell ⟨c, 3, none⟩ f3).setCell ⟨c, 4, none⟩ f4) bS n0 n1 n2 n3
  exact ⟨blk_keep (blkset5 hF) kS (fun h => hne h), blkset4 (blk_keep hS kF (fun h => hne h.symm)), ((h.mono (fun _ _ h => h.elim)).trans' kF (fun i hi h => by omega)).trans' kS (fun _ _ h => h), (kF.mono (fun _ _ h => .inr (.inl h))).trans (kS.mono (fun _ _ h => .inl h))⟩
theorem emB {W3 wy : World} {bS c : Nat} {TF TS : TypeId} {z0 z1 z2 z3 z4 f0 f1 f2 f3 f4 o0 o1 o2 o3 n0 n1 n2 n3 : Value} (h : Keeps (fun _ => False) W3 wy) (hS : Blk wy bS #[o0, o1, o2, o3] TS) (hF : Blk wy c #[z0, z1, z2, z3, z4] TF) (hne : c ≠ bS) (hle : W3.heap.size ≤ c) :
    EmFin W3 wy (((((((((wy.setCell ⟨bS, 0, none⟩ n0).setCell ⟨bS, 1, none⟩ n1).setCell ⟨bS, 2, none⟩ n2).setCell ⟨bS, 3, none⟩ n3).setCell ⟨c, 0, none⟩ f0).setCell ⟨c, 1, none⟩ f1).setCell ⟨c, 2, none⟩ f2).setCell ⟨c, 3, none⟩ f3).setCell ⟨c, 4, none⟩ f4) bS c #[f0, f1, f2, f3, f4] TF #[n0, n1, n2, n3] TS := by
  have kS := keep4 wy bS n0 n1 n2 n3
  have kF := keep5 ((((wy.setCell ⟨bS, 0, none⟩ n0).setCell ⟨bS, 1, none⟩ n1).setCell ⟨bS, 2, none⟩ n2).setCell ⟨bS, 3, none⟩ n3) c f0 f1 f2 f3 f4
  exact ⟨blkset5 (blk_keep hF kS (fun h => hne h)), blk_keep (blkset4 hS) kF (fun h => hne h.symm), ((h.mono (fun _ _ h => h.elim)).trans' kS (fun _ _ h => h)).trans' kF (fun i hi h => by omega), (kS.mono (fun _ _ h => .inl h)).trans (kF.mono (fun _ _ h => .inr (.inl h)))⟩
theorem emC {W3 wy : World} {bS : Nat} {TF TS : TypeId} {f0 f1 f2 f3 f4 o0 o1 o2 o3 n0 n1 n2 n3 : Value} (h : Keeps (fun _ => False) W3 wy) (hS : Blk wy bS #[o0, o1, o2, o3] TS) (hb : bS < W3.heap.size) :
    EmFin W3 wy (((((wy.alloc (.cells #[f0, f1, f2, f3, f4] TF)).setCell ⟨bS, 0, none⟩ n0).setCell ⟨bS, 1, none⟩ n1).setCell ⟨bS, 2, none⟩ n2).setCell ⟨bS, 3, none⟩ n3) bS wy.heap.size #[f0, f1, f2, f3, f4] TF #[n0, n1, n2, n3] TS := by
  have hz := h.size
  have kA := keeps_alloc (fun _ => False) wy (.cells #[f0, f1, f2, f3, f4] TF)
  have kS := keep4 (wy.alloc (.cells #[f0, f1, f2, f3, f4] TF)) bS n0 n1 n2 n3
  exact ⟨blk_keep (blk_new wy _ _) kS (fun h => by omega), blkset4 (blk_alloc hS _), ((h.trans kA).mono (fun _ _ h => h.elim)).trans' kS (fun _ _ h => h), (kA.mono (fun _ _ h => h.elim)).trans' kS (fun _ _ h => .inl h)⟩
theorem emD {W3 wy : World} {bS : Nat} {TF TS : TypeId} {f0 f1 f2 f3 f4 o0 o1 o2 o3 n0 n1 n2 n3 : Value} (h : Keeps (fun _ => False) W3 wy) (hS : Blk wy bS #[o0, o1, o2, o3] TS) (hb : bS < W3.heap.size) :
    EmFin W3 wy (((((wy.setCell ⟨bS, 0, none⟩ n0).setCell ⟨bS, 1, none⟩ n1).setCell ⟨bS, 2, none⟩ n2).setCell ⟨bS, 3, none⟩ n3).alloc (.cells #[f0, f1, f2, f3, f4] TF)) bS wy.heap.size #[f0, f1, f2, f3, f4] TF #[n0, n1, n2, n3] TS := by
  have hz := h.size
  have kS := keep4 wy bS n0 n1 n2 n3
  have kA := keeps_alloc (fun i => i = bS) ((((wy.setCell ⟨bS, 0, none⟩ n0).setCell ⟨bS, 1, none⟩ n1).setCell ⟨bS, 2, none⟩ n2).setCell ⟨bS, 3, none⟩ n3) (.cells #[f0, f1, f2, f3, f4] TF)
  exact ⟨blk_new' _ _ _ _ (by simp), blk_alloc (blkset4 hS) _, ((h.mono (fun _ _ h => h.elim)).trans' kS (fun _ _ h => h)).trans kA, (kS.trans kA).mono (fun _ _ h => .inl h)⟩
theorem emE {W3 wy : World} {bS : Nat} {TF TS : TypeId} {z0 z1 z2 z3 z4 f0 f1 f2 f3 f4 o0 o1 o2 o3 n0 n1 n2 n3 : Value} (h : Keeps (fun _ => False) W3 wy) (hS : Blk wy bS #[o0, o1, o2, o3] TS) (hb : bS < W3.heap.size) :
    EmFin W3 wy ((((((((((wy.alloc (.cells #[z0, z1, z2, z3, z4] TF)).setCell ⟨bS, 0, none⟩ n0).setCell ⟨bS, 1, none⟩ n1).setCell ⟨bS, 2, none⟩ n2).setCell ⟨bS, 3, none⟩ n3).setCell ⟨wy.heap.size, 0, none⟩ f0).setCell ⟨wy.heap.size, 1, none⟩ f1).setCell ⟨wy.heap.size, 2, none⟩ f2).setCell ⟨wy.heap.size, 3, none⟩ f3).setCell ⟨wy.heap.size, 4, none⟩ f4) bS wy.heap.size #[f0, f1, f2, f3, f4] TF #[n0, n1, n2, n3] TS := by
  have hz := h.size
  have kA := keeps_alloc (fun _ => False) wy (.cells #[z0, z1, z2, z3, z4] TF)
  have e := emB (h.trans kA) (blk_alloc hS _) (blk_new wy _ _) (show wy.heap.size ≠ bS by omega) hz (f0 := f0) (f1 := f1) (f2 := f2) (f3 := f3) (f4 := f4) (n0 := n0) (n1 := n1) (n2 := n2) (n3 := n3)
  exact ⟨e.f, e.s, e.k, (kA.mono (fun _ _ h => h.elim)).trans' e.k1 (fun i hi h => by rcases h with h | h | h; exact .inl h; exact .inr (.inl h); (simp at h; omega))⟩
end Go.Proofs.YthoikljmokkchaaDoor
namespace Go.Proofs.YthoikljmokkchaaDoor
open Go.RowKit
attribute [local go_sem ↓] Go.wp_at_zero Go.wp_at_succ
def ldE : Op := Op.load 57 (.tmp 2)
theorem ldE_eq : Op.load 57 (.tmp 2) = ldE := rfl
attribute [local go_sem] ldE
def EmitR (w : World) (bs : List (List Nat)) (f : Fr) (ac : Int) (l : Ld) (e : Ending) (w' : World) : Prop := ∃ a c a2 c2, e = .returned (.tuple #[.agg #[.int .i64 f.q, .int .i64 f.k, .bool f.u, .slice a f.b.length c, .int .u64 (f.t : Int)], .agg #[.slice a2 bs.length c2, .int .i64 ac, .int .u64 (l.k : Int), .int .i64 l.i], .int .i64 0]) ∧
  Sl (fun b => w.heap.size ≤ b) w' (.slice a f.b.length c) (u8s f.b) ∧ Bds (fun b => w.heap.size ≤ b) w' (.slice a2 bs.length c2) bs ∧ Keeps (fun _ => False) w w'
set_option maxRecDepth 100000 in
set_option maxHeartbeats 20000000 in
theorem Emit_ok (bs : List (List Nat)) (x : List Nat) (ba : Option Addr) (bc : Nat) (ac : Int) (l : Ld) (q : Nat) (K : Nat → Prop) (w : World) (hv : Bds K w (.slice ba bs.length bc) bs) (hn : bs.length ≤ 100000) (hx : ∀ x ∈ bs, x.length ≤ 512 ∧ ∀ c ∈ x, c < 256) (hl : l.ok) (hq : bs[q]? = some x) (ha : 0 ≤ ac) (h2 : ac ≤ q) (h3 : (q : Int) < ac + 16) :
    Calls Tryd.prog 39 #[.agg #[.slice ba bs.length bc, .int .i64 ac, .int .u64 (l.k : Int), .int .i64 l.i], .int .i64 (q : Int)] w fun e w' => EmitR w bs (signF l ⟨q, 0, false, x, 0⟩) ac (nextL l) e w' := by
  have HV := hid (hv.mono (K' := fun b => b < w.heap.size) (fun b h _ => h)); have HX := hid hx
  have hqn : q < bs.length := (List.getElem?_eq_some_iff.1 hq).1
  have hxx := hx x (List.mem_of_getElem? hq)
  have hfo : (⟨q, 0, false, x, 0⟩ : Fr).ok := ⟨by show _ ≤ (q : Int); omega, by show (q : Int) ≤ _; omega, by show _ ≤ (0 : Int); omega, by show (0 : Int) ≤ _; omega, hxx.2, by show 0 < _; omega, by show x.length ≤ _; omega⟩
  have HFO := hid hfo; have HLO := hid hl; have HQ := hid hq
  have hx5 : x.length ≤ 512 := hxx.1
  obtain ⟨F, hF⟩ : ∃ F, signF l ⟨q, 0, false, x, 0⟩ = F := ⟨_, rfl⟩
  have HF : Hd (F.q = q ∧ F.k = l.i ∧ F.u = false ∧ F.b = x) := hid (by rw [← hF]; exact ⟨rfl, rfl, rfl, rfl⟩)
  have HFT : Hd ((signF l ⟨q, 0, false, x, 0⟩).t = F.t) := hid (by rw [hF])
  rw [hF]
  clear hF hv hx hl hq hxx hfo
  obtain ⟨n, hnn⟩ : ∃ n, bs.length = n := ⟨_, rfl⟩
  have HN := hid hnn
  rw [hnn] at HV hn hqn ⊢
  clear hnn
  obtain ⟨t, ht⟩ : ∃ t, F.t = t := ⟨_, rfl⟩
  have HT := hid ht
  rw [ht] at HFT
  clear ht
  obtain ⟨k, i⟩ := l
  have hi0 := HLO.out.i0; have hi1 := HLO.out.i1
  simp only [] at *
  obtain ⟨s, hs⟩ : ∃ s, stepN k = s := ⟨_, rfl⟩
  have HS := hid hs
  clear hs
  have q1 : (q : Int) < n := by omega
  have q2 : (0 : Int) ≤ q := by omega
  have hw : IntKind.i64.wrap (ac + 16) = ac + 16 := IntWalk.i64_in _ (by omega)
  go_enter Tryd.func39, Tryd.ntmps39
  go_upto_region 1 with fail
  generalize hW : World.alloc (World.alloc (World.alloc w _) _) _ = W1
  have KS : Hd (Keeps (fun _ => False) w W1) := hid (by rw [← hW]; exact (Keeps.alloc (Keeps.alloc (Keeps.alloc (Keeps.refl (fun _ => False) w) _) _) _))
  have HV' : Hd (Bds (fun b => b < w.heap.size) W1 (.slice ba n bc) bs) := hid (HV.out.keep KS.out (fun _ _ _ h => h))
  have BS : Hd (Blk W1 w.heap.size #[(.slice ba n bc), (.int .i64 ac), (.int .u64 (k : Int)), (.int .i64 i)] 57) := hid (by rw [← hW]; exact (blk_alloc (blk_alloc (blk_new _ _ _) _) _))
  have BR1 : Hd (Blk W1 (w.heap.size + 1) #[(.int .i64 0), (.int .i64 0), (.bool false), (.slice none 0 0), (.int .u64 0)] 25) := hid (by rw [← hW]; exact (blk_alloc (blk_new' _ _ _ _ (by simp)) _))
  have BR2 : Hd (Blk W1 (w.heap.size + 1 + 1) #[(.slice none 0 0), (.int .i64 0), (.int .u64 0), (.int .i64 0)] 57) := hid (by rw [← hW]; exact (blk_new' _ _ _ _ (by simp)))
  clear HV
  have HV := HV'
  clear HV'
  have HK : Hd (Keeps (fun _ => False) w W1) := hid KS.out
  have z_W1 : w.heap.size + 3 ≤ W1.heap.size := by rw [← hW]; simp
  clear hW KS
  generalize hb_BR2 : w.heap.size + 1 + 1 = b_BR2 at *
  generalize hb_BR1 : w.heap.size + 1 = b_BR1 at *
  have o_BS_0 : W1.cell? ⟨w.heap.size, 0, none⟩ = some ((.slice ba n bc)) := blk_cell BS.out 0
  have o_BS_1 : W1.cell? ⟨w.heap.size, 1, none⟩ = some ((.int .i64 ac)) := blk_cell BS.out 1
  go_wp2_with fail
  refine (cloned_any _ _ bs _ HV.out (by rw [HN.out]; omega) (fun x hx => by have := (HX.out x hx).1; omega)).mono ?_
  rw [HN.out]
  rintro e W2 ⟨a2, c2, rfl, hp, hk⟩
  have HP := hid hp
  clear hp
  clear o_BS_0 o_BS_1
  have HV' : Hd (Bds (fun b => b < w.heap.size) W2 (.slice ba n bc) bs) := hid (HV.out.keep hk (fun _ _ _ h => h))
  have BS' : Hd (Blk W2 w.heap.size #[(.slice ba n bc), (.int .i64 ac), (.int .u64 (k : Int)), (.int .i64 i)] 57) := hid (blk_keep BS.out hk (fun h => h))
  have BR1' : Hd (Blk W2 b_BR1 #[(.int .i64 0), (.int .i64 0), (.bool false), (.slice none 0 0), (.int .u64 0)] 25) := hid (blk_keep BR1.out hk (fun h => h))
  have BR2' : Hd (Blk W2 b_BR2 #[(.slice none 0 0), (.int .i64 0), (.int .u64 0), (.int .i64 0)] 57) := hid (blk_keep BR2.out hk (fun h => h))
  clear HV BS BR1 BR2
  have HV := HV'
  clear HV'
  have BS := BS'
  clear BS'
  have BR1 := BR1'
  clear BR1'
  have BR2 := BR2'
  clear BR2'
  have HK' : Hd (Keeps (fun _ => False) w W2) := hid (HK.out.trans hk)
  clear HK
  have HK := HK'
  clear HK'
  have z_W2 := hk.size
  clear hk
  clear HV
  clear hw
  have o_BS_0 : W2.cell? ⟨w.heap.size, 0, none⟩ = some ((.slice ba n bc)) := blk_cell BS.out 0
  have f_BS_0 : W2.frozen? ⟨w.heap.size, 0, none⟩ = false := blk_free BS.out 0
  go_upto_region 8 with fail
  clear o_BS_0 f_BS_0
  have lt_HP := bdp_lt HP.out
  generalize hW : World.setCell W2 _ _ = W3
  have KS : Hd (Keeps (fun b => b = w.heap.size) W2 W3) := hid (by rw [← hW]; exact (Keeps.setCell (S := fun b => b = w.heap.size) (p := ⟨w.heap.size, 0, none⟩) (Keeps.refl (fun b => b = w.heap.size) W2) (.inl rfl) _))
  have BS' : Hd (Blk W3 w.heap.size #[(.slice a2 n c2), (.int .i64 ac), (.int .u64 (k : Int)), (.int .i64 i)] 57) := hid (by rw [← hW]; exact (blk_set BS.out 0 _))
  have BR1' : Hd (Blk W3 b_BR1 #[(.int .i64 0), (.int .i64 0), (.bool false), (.slice none 0 0), (.int .u64 0)] 25) := hid (by rw [← hW]; exact (blk_other BR1.out (by omega) _ _))
  have BR2' : Hd (Blk W3 b_BR2 #[(.slice none 0 0), (.int .i64 0), (.int .u64 0), (.int .i64 0)] 57) := hid (by rw [← hW]; exact (blk_other BR2.out (by omega) _ _))
  have HP' : Hd (BdP (fun b => W1.heap.size ≤ b) W1.heap.size W3 (.slice a2 n c2) bs) := hid (HP.out.keep KS.out (fun b _ h1 h2 => by omega))
  clear BS BR1 BR2 HP
  have BS := BS'
  clear BS'
  have BR1 := BR1'
  clear BR1'
  have BR2 := BR2'
  clear BR2'
  have HP := HP'
  clear HP'
  have HK' : Hd (Keeps (fun _ => False) w W3) := hid (HK.out.trans' KS.out (fun i hi h => by omega))
  clear HK
  have HK := HK'
  clear HK'
  have z_W3 : W2.heap.size + 0 ≤ W3.heap.size := by rw [← hW]; simp
  clear hW KS
  obtain ⟨gx, ox, ea2, hkb, hbx, hcx⟩ := bds_cells HP.out.bds (by rw [HN.out]; omega)
  obtain ⟨ad, cd, hcell, hsx⟩ := hcx q x HQ.out
  subst ea2
  have hkb2 : gx ≠ w.heap.size := by rcases hkb with h | h <;> omega
  have HSX := hid (hsx.mono (K' := fun _ => True) (fun _ _ _ => trivial))
  clear hcx hsx
  have HCB : Hd (∀ X, Keeps (fun _ => False) W3 X → Calls Tryd.prog 66 #[.slice ad x.length cd] X fun e w' => Wi.NewRet X 5 (u8s x) e w') := hid (fun X hx => Wi.CloneB_any _ _ x X (HSX.out.keep hx (fun _ _ _ h => h)) (by omega))
  have HCG : Hd (∀ X (a : Option Addr) (c : Nat), Sl (fun _ => True) X (.slice a x.length c) (u8s x) → Calls Tryd.prog 75 #[.agg #[.slice (some ⟨gx, ox, none⟩) n c2, .int .i64 ac, .int .u64 (k : Int), .int .i64 i], .agg #[.int .i64 (q : Int), .int .i64 0, .bool false, .slice a x.length c, .int .u64 0]] X fun e w' => e = .returned (.tuple #[.agg #[.int .i64 (q : Int), .int .i64 i, .bool false, .slice a x.length c, .int .u64 (t : Int)], .agg #[.slice (some ⟨gx, ox, none⟩) n c2, .int .i64 ac, .int .u64 (s : Int), .int .i64 (i + 1)]]) ∧ Keeps (fun _ => False) X w') := hid (fun X a c hsl => by have h := sign_any ⟨k, i⟩ ⟨q, 0, false, x, 0⟩ ac (some ⟨gx, ox, none⟩) n c2 (fun _ => True) a c X HLO.out HFO.out hsl; rw [HFT.out] at h; simp only [HS.out] at h; exact h)
  have HCELL := hid hcell
  clear hcell
  have HCX : Hd (∀ X, Keeps (fun b => b = w.heap.size) W3 X → X.cell? ⟨gx, ox + q, none⟩ = some (.slice ad x.length cd)) := hid (fun X hx => keep_cell hx (by omega) HCELL.out)
  have ltBS : w.heap.size < W3.heap.size := blk_lt BS.out
  rw [ldE_eq]
  go_cut [7] from 35 to 46 (fun u7 wx => ∃ (a4 : Option Addr), ∃ (c4 : Nat), ∃ bx, u7 = .pointer (some ⟨bx, 0, none⟩) ∧ W3.heap.size ≤ bx ∧ Hd (Blk wx bx #[(.int .i64 (q : Int)), (.int .i64 i), (.bool false), (.slice a4 x.length c4), (.int .u64 (t : Int))] 25) ∧ Hd (Blk wx w.heap.size #[(.slice (some ⟨gx, ox, none⟩) n c2), (.int .i64 ac), (.int .u64 (s : Int)), (.int .i64 (i + 1))] 57) ∧ Hd (Sl (fun b => W3.heap.size ≤ b) wx (.slice a4 x.length c4) (u8s x)) ∧ Hd (Keeps (fun b => b = w.heap.size) W3 wx))
  case first =>
    have KC : Hd (Keeps (fun _ => False) W3 W3) := hid (Keeps.refl _ _)
    have HSS : Hd (∀ w', Keeps (fun _ => False) W3 w' → (w'.cell? ⟨w.heap.size, 0, none⟩ = some (.slice (some ⟨gx, ox, none⟩) n c2) ∧ w'.cell? ⟨gx, ox + q, none⟩ = some (.slice ad x.length cd))) := hid (fun w' hk => ⟨blk_cell (blk_keep BS.out hk (fun h => h)) 0, keep_cell hk (fun h => h) HCELL.out⟩)
    have sF_BS_0 : W3.cell? ⟨w.heap.size, 0, none⟩ = some ((.slice (some ⟨gx, ox, none⟩) n c2)) := blk_cell (blk_keep BS.out KC.out (fun h => h)) 0
    have sG_BS_0 : W3.frozen? ⟨w.heap.size, 0, none⟩ = false := blk_free (blk_keep BS.out KC.out (fun h => h)) 0
    have sF_BS_1 : W3.cell? ⟨w.heap.size, 1, none⟩ = some ((.int .i64 ac)) := blk_cell (blk_keep BS.out KC.out (fun h => h)) 1
    have sG_BS_1 : W3.frozen? ⟨w.heap.size, 1, none⟩ = false := blk_free (blk_keep BS.out KC.out (fun h => h)) 1
    have sF_BS_2 : W3.cell? ⟨w.heap.size, 2, none⟩ = some ((.int .u64 (k : Int))) := blk_cell (blk_keep BS.out KC.out (fun h => h)) 2
    have sG_BS_2 : W3.frozen? ⟨w.heap.size, 2, none⟩ = false := blk_free (blk_keep BS.out KC.out (fun h => h)) 2
    have sF_BS_3 : W3.cell? ⟨w.heap.size, 3, none⟩ = some ((.int .i64 i)) := blk_cell (blk_keep BS.out KC.out (fun h => h)) 3
    have sG_BS_3 : W3.frozen? ⟨w.heap.size, 3, none⟩ = false := blk_free (blk_keep BS.out KC.out (fun h => h)) 3
    have sA_BS : w.heap.size < W3.heap.size := blk_lt (blk_keep BS.out KC.out (fun h => h))
    have sB_BS : ¬ (w.heap.size = W3.heap.size) := Nat.ne_of_lt sA_BS
    have sC_BS : ¬ (W3.heap.size = w.heap.size) := Nat.ne_of_gt sA_BS
    have LB_BS : ∀ X, Blk X w.heap.size #[(.slice (some ⟨gx, ox, none⟩) n c2), (.int .i64 ac), (.int .u64 (k : Int)), (.int .i64 i)] 57 → Blk ((((X.setCell ⟨w.heap.size, 0, none⟩ (.slice (some ⟨gx, ox, none⟩) n c2)).setCell ⟨w.heap.size, 1, none⟩ (.int .i64 ac)).setCell ⟨w.heap.size, 2, none⟩ (.int .u64 (s : Int))).setCell ⟨w.heap.size, 3, none⟩ (.int .i64 (i + 1))) w.heap.size #[(.slice (some ⟨gx, ox, none⟩) n c2), (.int .i64 ac), (.int .u64 (s : Int)), (.int .i64 (i + 1))] 57 := fun X h => (blk_set (blk_set (blk_set (blk_set h 0 _) 1 _) 2 _) 3 _)
    go_region_held (fun w' => w'.cell? ⟨w.heap.size, 0, none⟩ = some (.slice (some ⟨gx, ox, none⟩) n c2) ∧ w'.cell? ⟨gx, ox + q, none⟩ = some (.slice ad x.length cd)) (first | (refine HSS.out _ ?_; (repeat (first | (with_reducible exact KC.out) | (with_reducible exact Keeps.refl _ _) | (with_reducible apply Keeps.drewN) | (with_reducible apply Keeps.drew) | (with_reducible apply Keeps.alloc) | (refine Keeps.setCell (S := fun _ => False) ?_ (.inr (by first | exact Nat.le_refl _ | omega | (simp <;> fail) | (simp; omega) | fail)) _))); done) | (exact ⟨blk_cell (show Blk _ w.heap.size #[(.slice (some ⟨gx, ox, none⟩) n c2), (.int .i64 ac), (.int .u64 (s : Int)), (.int .i64 (i + 1))] 57 from (by repeat (first | (with_reducible refine LB_BS _ ?_) | (with_reducible refine blk_other ?_ (by first | omega | (simp only [World.size_alloc, World.size_drew]; omega) | fail) _ _) | (with_reducible apply blk_drewN) | (with_reducible apply blk_drew) | (with_reducible refine blk_alloc ?_ _) | (with_reducible exact blk_keep BS.out KC.out (fun h => h))))) 0, HCX.out _ (by repeat (first | (with_reducible refine Keeps.setCell (S := fun b => b = w.heap.size) ?_ (.inl (by first | (with_reducible rfl) | (simp <;> fail) | fail)) _) | (with_reducible apply Keeps.drewN) | (with_reducible apply Keeps.drew) | (with_reducible apply Keeps.alloc) | (refine Keeps.setCell (S := fun b => b = w.heap.size) ?_ (.inr (by first | exact Nat.le_refl _ | omega | (simp; omega) | fail)) _) | (with_reducible exact KC.out) | (with_reducible exact Keeps.refl _ _) | (with_reducible exact KC.out.mono (fun _ _ h => h.elim))))⟩))
      (first
      | (go_at_call 66; (refine (HCB.out _ (by repeat (first | (with_reducible exact KC.out) | (with_reducible exact Keeps.refl _ _) | (with_reducible apply Keeps.drewN) | (with_reducible apply Keeps.drew) | (with_reducible apply Keeps.alloc)))).mono ?_); rintro e wy0 ⟨a4, n4, c4, rfl, hn4, ho4, hk⟩; (try (replace LNB := hid (Keeps.trans (S := fun _ => False) (by repeat (first | (with_reducible exact LNB.out) | (with_reducible exact Keeps.refl _ _) | (with_reducible apply Keeps.drewN) | (with_reducible apply Keeps.drew) | (with_reducible apply Keeps.alloc))) hk))); (first | (have HNBX := HNB; clear HNBX) | (have HNB : Hd (∀ Vz, Keeps (fun _ => False) wy0 Vz → Blk Vz W3.heap.size #[(.int .i64 0), (.int .i64 0), (.bool false), (.slice none 0 0), (.int .u64 0)] 25) := hid (fun Vz hv => blk_keep (blk_keep (by (repeat (first | (with_reducible apply blk_drewN) | (with_reducible apply blk_drew) | (with_reducible refine blk_new' _ _ _ _ ?_) | (with_reducible apply blk_alloc))); (first | (with_reducible rfl) | (simp only [World.size_alloc, World.size_drew] <;> fail) | (simp <;> fail))) hk (fun h => h)) hv (fun h => h)); have LNB : Hd (Keeps (fun _ => False) wy0 wy0) := hid (Keeps.refl _ _); have hnbx : W3.heap.size ≤ W3.heap.size := by first | exact Nat.le_refl _ | omega) | skip); (try (have nF0 := blk_cell (HNB.out _ LNB.out) 0; have nG0 := blk_free (HNB.out _ LNB.out) 0; have nF1 := blk_cell (HNB.out _ LNB.out) 1; have nG1 := blk_free (HNB.out _ LNB.out) 1; have nF2 := blk_cell (HNB.out _ LNB.out) 2; have nG2 := blk_free (HNB.out _ LNB.out) 2; have nF3 := blk_cell (HNB.out _ LNB.out) 3; have nG3 := blk_free (HNB.out _ LNB.out) 3; have nF4 := blk_cell (HNB.out _ LNB.out) 4; have nG4 := blk_free (HNB.out _ LNB.out) 4)); have KC2 : Hd (Keeps (fun _ => False) W3 wy0) := hid (Keeps.trans (S := fun _ => False) (by repeat (first | (with_reducible exact KC.out) | (with_reducible exact Keeps.refl _ _) | (with_reducible apply Keeps.drewN) | (with_reducible apply Keeps.drew) | (with_reducible apply Keeps.alloc))) hk); have zc := KC.out.size; have zk := hk.size; (try simp at zk); obtain rfl : n4 = x.length := (by rw [hn4, u8s_length]); have HS4 := hid (sl_new (row_sl ho4.row (by rw [u8s_length])) W3.heap.size (by first | exact Nat.le_refl _ | (simp <;> fail) | (simp; omega) | fail)); clear hn4 ho4; replace KC := KC2; clear KC2; have sF_BS_0 : wy0.cell? ⟨w.heap.size, 0, none⟩ = some ((.slice (some ⟨gx, ox, none⟩) n c2)) := blk_cell (blk_keep BS.out KC.out (fun h => h)) 0; have sG_BS_0 : wy0.frozen? ⟨w.heap.size, 0, none⟩ = false := blk_free (blk_keep BS.out KC.out (fun h => h)) 0; have sF_BS_1 : wy0.cell? ⟨w.heap.size, 1, none⟩ = some ((.int .i64 ac)) := blk_cell (blk_keep BS.out KC.out (fun h => h)) 1; have sG_BS_1 : wy0.frozen? ⟨w.heap.size, 1, none⟩ = false := blk_free (blk_keep BS.out KC.out (fun h => h)) 1; have sF_BS_2 : wy0.cell? ⟨w.heap.size, 2, none⟩ = some ((.int .u64 (k : Int))) := blk_cell (blk_keep BS.out KC.out (fun h => h)) 2; have sG_BS_2 : wy0.frozen? ⟨w.heap.size, 2, none⟩ = false := blk_free (blk_keep BS.out KC.out (fun h => h)) 2; have sF_BS_3 : wy0.cell? ⟨w.heap.size, 3, none⟩ = some ((.int .i64 i)) := blk_cell (blk_keep BS.out KC.out (fun h => h)) 3; have sG_BS_3 : wy0.frozen? ⟨w.heap.size, 3, none⟩ = false := blk_free (blk_keep BS.out KC.out (fun h => h)) 3; have sA_BS : w.heap.size < wy0.heap.size := blk_lt (blk_keep BS.out KC.out (fun h => h)); have sB_BS : ¬ (w.heap.size = wy0.heap.size) := Nat.ne_of_lt sA_BS; have sC_BS : ¬ (wy0.heap.size = w.heap.size) := Nat.ne_of_gt sA_BS; replace hk := hid hk)
      | (go_at_call 75; (refine (HCG.out _ _ _ ((HS4.out.2 _ (Keeps.mono (S := fun _ => False) (by repeat (first | (with_reducible exact Keeps.refl _ _) | (with_reducible apply Keeps.drewN) | (with_reducible apply Keeps.drew) | (with_reducible apply Keeps.alloc))) (fun _ _ h => h.elim))).mono (fun _ _ _ => trivial))).mono ?_); rintro e wy1 ⟨rfl, hk⟩; (try (replace LNB := hid (Keeps.trans (S := fun _ => False) (by repeat (first | (with_reducible exact LNB.out) | (with_reducible exact Keeps.refl _ _) | (with_reducible apply Keeps.drewN) | (with_reducible apply Keeps.drew) | (with_reducible apply Keeps.alloc))) hk))); (first | (have HNBX := HNB; clear HNBX) | (have HNB : Hd (∀ Vz, Keeps (fun _ => False) wy1 Vz → Blk Vz W3.heap.size #[(.int .i64 0), (.int .i64 0), (.bool false), (.slice none 0 0), (.int .u64 0)] 25) := hid (fun Vz hv => blk_keep (blk_keep (by (repeat (first | (with_reducible apply blk_drewN) | (with_reducible apply blk_drew) | (with_reducible refine blk_new' _ _ _ _ ?_) | (with_reducible apply blk_alloc))); (first | (with_reducible rfl) | (simp only [World.size_alloc, World.size_drew] <;> fail) | (simp <;> fail))) hk (fun h => h)) hv (fun h => h)); have LNB : Hd (Keeps (fun _ => False) wy1 wy1) := hid (Keeps.refl _ _); have hnbx : W3.heap.size ≤ W3.heap.size := by first | exact Nat.le_refl _ | omega) | (have HNB : Hd (∀ Vz, Keeps (fun _ => False) wy1 Vz → Blk Vz wy0.heap.size #[(.int .i64 0), (.int .i64 0), (.bool false), (.slice none 0 0), (.int .u64 0)] 25) := hid (fun Vz hv => blk_keep (blk_keep (by (repeat (first | (with_reducible apply blk_drewN) | (with_reducible apply blk_drew) | (with_reducible refine blk_new' _ _ _ _ ?_) | (with_reducible apply blk_alloc))); (first | (with_reducible rfl) | (simp only [World.size_alloc, World.size_drew] <;> fail) | (simp <;> fail))) hk (fun h => h)) hv (fun h => h)); have LNB : Hd (Keeps (fun _ => False) wy1 wy1) := hid (Keeps.refl _ _); have hnbx : W3.heap.size ≤ wy0.heap.size := by first | exact Nat.le_refl _ | omega) | skip); (try (have nF0 := blk_cell (HNB.out _ LNB.out) 0; have nG0 := blk_free (HNB.out _ LNB.out) 0; have nF1 := blk_cell (HNB.out _ LNB.out) 1; have nG1 := blk_free (HNB.out _ LNB.out) 1; have nF2 := blk_cell (HNB.out _ LNB.out) 2; have nG2 := blk_free (HNB.out _ LNB.out) 2; have nF3 := blk_cell (HNB.out _ LNB.out) 3; have nG3 := blk_free (HNB.out _ LNB.out) 3; have nF4 := blk_cell (HNB.out _ LNB.out) 4; have nG4 := blk_free (HNB.out _ LNB.out) 4)); have KC2 : Hd (Keeps (fun _ => False) W3 wy1) := hid (Keeps.trans (S := fun _ => False) (by repeat (first | (with_reducible exact KC.out) | (with_reducible exact Keeps.refl _ _) | (with_reducible apply Keeps.drewN) | (with_reducible apply Keeps.drew) | (with_reducible apply Keeps.alloc))) hk); have zc := KC.out.size; have zk := hk.size; (try simp at zk); have K01 : Hd (Keeps (fun _ => False) wy0 wy1) := hid (Keeps.trans (S := fun _ => False) (by repeat (first | (with_reducible exact Keeps.refl _ _) | (with_reducible apply Keeps.drewN) | (with_reducible apply Keeps.drew) | (with_reducible apply Keeps.alloc))) hk); replace KC := KC2; clear KC2; have sF_BS_0 : wy1.cell? ⟨w.heap.size, 0, none⟩ = some ((.slice (some ⟨gx, ox, none⟩) n c2)) := blk_cell (blk_keep BS.out KC.out (fun h => h)) 0; have sG_BS_0 : wy1.frozen? ⟨w.heap.size, 0, none⟩ = false := blk_free (blk_keep BS.out KC.out (fun h => h)) 0; have sF_BS_1 : wy1.cell? ⟨w.heap.size, 1, none⟩ = some ((.int .i64 ac)) := blk_cell (blk_keep BS.out KC.out (fun h => h)) 1; have sG_BS_1 : wy1.frozen? ⟨w.heap.size, 1, none⟩ = false := blk_free (blk_keep BS.out KC.out (fun h => h)) 1; have sF_BS_2 : wy1.cell? ⟨w.heap.size, 2, none⟩ = some ((.int .u64 (k : Int))) := blk_cell (blk_keep BS.out KC.out (fun h => h)) 2; have sG_BS_2 : wy1.frozen? ⟨w.heap.size, 2, none⟩ = false := blk_free (blk_keep BS.out KC.out (fun h => h)) 2; have sF_BS_3 : wy1.cell? ⟨w.heap.size, 3, none⟩ = some ((.int .i64 i)) := blk_cell (blk_keep BS.out KC.out (fun h => h)) 3; have sG_BS_3 : wy1.frozen? ⟨w.heap.size, 3, none⟩ = false := blk_free (blk_keep BS.out KC.out (fun h => h)) 3; have sA_BS : w.heap.size < wy1.heap.size := blk_lt (blk_keep BS.out KC.out (fun h => h)); have sB_BS : ¬ (w.heap.size = wy1.heap.size) := Nat.ne_of_lt sA_BS; have sC_BS : ¬ (wy1.heap.size = w.heap.size) := Nat.ne_of_gt sA_BS; replace hk := hid hk))
    all_goals
      go_wp2_with fail
      go_meet
      suffices e : EmFin W3 wy1 _ w.heap.size _ #[(.int .i64 (q : Int)), (.int .i64 i), (.bool false), (.slice a4 x.length c4), (.int .u64 (t : Int))] 25 #[(.slice (some ⟨gx, ox, none⟩) n c2), (.int .i64 ac), (.int .u64 (s : Int)), (.int .i64 (i + 1))] 57 from ⟨a4, c4, _, rfl, (by first | exact Nat.le_refl _ | exact hnbx | omega | fail), hid e.f, hid e.s, hid ((HS4.out.2 _ ((K01.out.mono (fun _ _ h => h.elim)).trans (e.k1.mono (fun i hi h => by rcases h with h | h | h; exact .inl (by have := HS4.out.1; omega); exact (by first | exact .inr (by omega) | exact .inl (by subst h; first | (simp <;> fail) | (simp; omega) | omega) | fail); exact .inr (by omega))))).mono (fun b _ h => Nat.le_trans HS4.out.1 h.1)), hid e.k⟩
      have hBS := blk_keep BS.out KC.out (fun h => h)
      first | (with_reducible exact emC KC.out hBS ltBS) | (with_reducible exact emD KC.out hBS ltBS) | (with_reducible exact emE KC.out hBS ltBS) | (with_reducible exact emA KC.out hBS (HNB.out _ LNB.out) (by first | exact sC_BS | omega | fail) hnbx) | (with_reducible exact emB KC.out hBS (HNB.out _ LNB.out) (by first | exact sC_BS | omega | fail) hnbx)
  case rest =>
    obtain ⟨a4, c4, b_F, rfl, hb_F, B_F, N_BS, M_0, hk⟩ := hcut
    replace hk := hk.out
    generalize wc = W4 at *
    have BR1' : Hd (Blk W4 b_BR1 #[(.int .i64 0), (.int .i64 0), (.bool false), (.slice none 0 0), (.int .u64 0)] 25) := hid (blk_keep BR1.out hk (fun h => by omega))
    have BR2' : Hd (Blk W4 b_BR2 #[(.slice none 0 0), (.int .i64 0), (.int .u64 0), (.int .i64 0)] 57) := hid (blk_keep BR2.out hk (fun h => by omega))
    have HP' : Hd (BdP (fun b => W1.heap.size ≤ b) W1.heap.size W4 (.slice (some ⟨gx, ox, none⟩) n c2) bs) := hid (HP.out.keep hk (fun b _ h1 h2 => by omega))
    clear BR1 BR2 HP
    have BR1 := BR1'
    clear BR1'
    have BR2 := BR2'
    clear BR2'
    have HP := HP'
    clear HP'
    clear BS
    have BS := N_BS
    clear N_BS
    have HK' : Hd (Keeps (fun _ => False) w W4) := hid (HK.out.trans' hk (fun i hi h => by omega))
    clear HK
    have HK := HK'
    clear HK'
    have z_W4 := hk.size
    clear hk
    have lt_F := blk_lt B_F.out
    go_upto_region 9 with fail
    go_cut [6] from 47 to 48 (fun u6 wx => u6 = .int .i64 0 ∧ Hd (Blk wx b_BR1 #[(.int .i64 (q : Int)), (.int .i64 i), (.bool false), (.slice a4 x.length c4), (.int .u64 (t : Int))] 25) ∧ Hd (Blk wx b_BR2 #[(.slice (some ⟨gx, ox, none⟩) n c2), (.int .i64 ac), (.int .u64 (s : Int)), (.int .i64 (i + 1))] 57) ∧ Hd (Keeps (fun b => b = b_BR1 ∨ b = b_BR2) W4 wx))
    case first =>
      have KC : Hd (Keeps (fun _ => False) W4 W4) := hid (Keeps.refl _ _)
      have HSS : Hd (∀ w', Keeps (fun b => b = b_BR1 ∨ b = b_BR2) W4 w' → (w'.cell? ⟨b_F, 0, none⟩ = some ((.int .i64 (q : Int))) ∧ w'.cell? ⟨b_F, 1, none⟩ = some ((.int .i64 i)) ∧ w'.cell? ⟨b_F, 2, none⟩ = some ((.bool false)) ∧ w'.cell? ⟨b_F, 3, none⟩ = some ((.slice a4 x.length c4)) ∧ w'.cell? ⟨b_F, 4, none⟩ = some ((.int .u64 (t : Int))) ∧ w'.cell? ⟨w.heap.size, 0, none⟩ = some ((.slice (some ⟨gx, ox, none⟩) n c2)) ∧ w'.cell? ⟨w.heap.size, 1, none⟩ = some ((.int .i64 ac)) ∧ w'.cell? ⟨w.heap.size, 2, none⟩ = some ((.int .u64 (s : Int))) ∧ w'.cell? ⟨w.heap.size, 3, none⟩ = some ((.int .i64 (i + 1))))) := hid (fun w' hk => ⟨blk_cell (blk_keep B_F.out hk (fun h => by omega)) 0, blk_cell (blk_keep B_F.out hk (fun h => by omega)) 1, blk_cell (blk_keep B_F.out hk (fun h => by omega)) 2, blk_cell (blk_keep B_F.out hk (fun h => by omega)) 3, blk_cell (blk_keep B_F.out hk (fun h => by omega)) 4, blk_cell (blk_keep BS.out hk (fun h => by omega)) 0, blk_cell (blk_keep BS.out hk (fun h => by omega)) 1, blk_cell (blk_keep BS.out hk (fun h => by omega)) 2, blk_cell (blk_keep BS.out hk (fun h => by omega)) 3⟩)
      have sF_BR1_0 : W4.cell? ⟨b_BR1, 0, none⟩ = some ((.int .i64 0)) := blk_cell (blk_keep BR1.out KC.out (fun h => h)) 0
      have sG_BR1_0 : W4.frozen? ⟨b_BR1, 0, none⟩ = false := blk_free (blk_keep BR1.out KC.out (fun h => h)) 0
      have sF_BR1_1 : W4.cell? ⟨b_BR1, 1, none⟩ = some ((.int .i64 0)) := blk_cell (blk_keep BR1.out KC.out (fun h => h)) 1
      have sG_BR1_1 : W4.frozen? ⟨b_BR1, 1, none⟩ = false := blk_free (blk_keep BR1.out KC.out (fun h => h)) 1
      have sF_BR1_2 : W4.cell? ⟨b_BR1, 2, none⟩ = some ((.bool false)) := blk_cell (blk_keep BR1.out KC.out (fun h => h)) 2
      have sG_BR1_2 : W4.frozen? ⟨b_BR1, 2, none⟩ = false := blk_free (blk_keep BR1.out KC.out (fun h => h)) 2
      have sF_BR1_3 : W4.cell? ⟨b_BR1, 3, none⟩ = some ((.slice none 0 0)) := blk_cell (blk_keep BR1.out KC.out (fun h => h)) 3
      have sG_BR1_3 : W4.frozen? ⟨b_BR1, 3, none⟩ = false := blk_free (blk_keep BR1.out KC.out (fun h => h)) 3
      have sF_BR1_4 : W4.cell? ⟨b_BR1, 4, none⟩ = some ((.int .u64 0)) := blk_cell (blk_keep BR1.out KC.out (fun h => h)) 4
      have sG_BR1_4 : W4.frozen? ⟨b_BR1, 4, none⟩ = false := blk_free (blk_keep BR1.out KC.out (fun h => h)) 4
      have sF_BR2_0 : W4.cell? ⟨b_BR2, 0, none⟩ = some ((.slice none 0 0)) := blk_cell (blk_keep BR2.out KC.out (fun h => h)) 0
      have sG_BR2_0 : W4.frozen? ⟨b_BR2, 0, none⟩ = false := blk_free (blk_keep BR2.out KC.out (fun h => h)) 0
      have sF_BR2_1 : W4.cell? ⟨b_BR2, 1, none⟩ = some ((.int .i64 0)) := blk_cell (blk_keep BR2.out KC.out (fun h => h)) 1
      have sG_BR2_1 : W4.frozen? ⟨b_BR2, 1, none⟩ = false := blk_free (blk_keep BR2.out KC.out (fun h => h)) 1
      have sF_BR2_2 : W4.cell? ⟨b_BR2, 2, none⟩ = some ((.int .u64 0)) := blk_cell (blk_keep BR2.out KC.out (fun h => h)) 2
      have sG_BR2_2 : W4.frozen? ⟨b_BR2, 2, none⟩ = false := blk_free (blk_keep BR2.out KC.out (fun h => h)) 2
      have sF_BR2_3 : W4.cell? ⟨b_BR2, 3, none⟩ = some ((.int .i64 0)) := blk_cell (blk_keep BR2.out KC.out (fun h => h)) 3
      have sG_BR2_3 : W4.frozen? ⟨b_BR2, 3, none⟩ = false := blk_free (blk_keep BR2.out KC.out (fun h => h)) 3
      have sL_B_F_0 : W4.cell? ⟨b_F, 0, none⟩ = some ((.int .i64 (q : Int))) := blk_cell (blk_keep B_F.out KC.out (fun h => h)) 0
      have sL_B_F_1 : W4.cell? ⟨b_F, 1, none⟩ = some ((.int .i64 i)) := blk_cell (blk_keep B_F.out KC.out (fun h => h)) 1
      have sL_B_F_2 : W4.cell? ⟨b_F, 2, none⟩ = some ((.bool false)) := blk_cell (blk_keep B_F.out KC.out (fun h => h)) 2
      have sL_B_F_3 : W4.cell? ⟨b_F, 3, none⟩ = some ((.slice a4 x.length c4)) := blk_cell (blk_keep B_F.out KC.out (fun h => h)) 3
      have sL_B_F_4 : W4.cell? ⟨b_F, 4, none⟩ = some ((.int .u64 (t : Int))) := blk_cell (blk_keep B_F.out KC.out (fun h => h)) 4
      have sL_BS_0 : W4.cell? ⟨w.heap.size, 0, none⟩ = some ((.slice (some ⟨gx, ox, none⟩) n c2)) := blk_cell (blk_keep BS.out KC.out (fun h => h)) 0
      have sL_BS_1 : W4.cell? ⟨w.heap.size, 1, none⟩ = some ((.int .i64 ac)) := blk_cell (blk_keep BS.out KC.out (fun h => h)) 1
      have sL_BS_2 : W4.cell? ⟨w.heap.size, 2, none⟩ = some ((.int .u64 (s : Int))) := blk_cell (blk_keep BS.out KC.out (fun h => h)) 2
      have sL_BS_3 : W4.cell? ⟨w.heap.size, 3, none⟩ = some ((.int .i64 (i + 1))) := blk_cell (blk_keep BS.out KC.out (fun h => h)) 3
      have LB_BR1 : ∀ X, Blk X b_BR1 #[(.int .i64 0), (.int .i64 0), (.bool false), (.slice none 0 0), (.int .u64 0)] 25 → Blk (((((X.setCell ⟨b_BR1, 0, none⟩ (.int .i64 (q : Int))).setCell ⟨b_BR1, 1, none⟩ (.int .i64 i)).setCell ⟨b_BR1, 2, none⟩ (.bool false)).setCell ⟨b_BR1, 3, none⟩ (.slice a4 x.length c4)).setCell ⟨b_BR1, 4, none⟩ (.int .u64 (t : Int))) b_BR1 #[(.int .i64 (q : Int)), (.int .i64 i), (.bool false), (.slice a4 x.length c4), (.int .u64 (t : Int))] 25 := fun X h => (blk_set (blk_set (blk_set (blk_set (blk_set h 0 _) 1 _) 2 _) 3 _) 4 _)
      have LO_BR2_BR1 : ∀ X cs T, Blk X b_BR1 cs T → Blk ((((X.setCell ⟨b_BR2, 0, none⟩ (.slice (some ⟨gx, ox, none⟩) n c2)).setCell ⟨b_BR2, 1, none⟩ (.int .i64 ac)).setCell ⟨b_BR2, 2, none⟩ (.int .u64 (s : Int))).setCell ⟨b_BR2, 3, none⟩ (.int .i64 (i + 1))) b_BR1 cs T := fun X cs T h => (blk_other (blk_other (blk_other (blk_other h (by omega) _ _) (by omega) _ _) (by omega) _ _) (by omega) _ _)
      have LB_BR2 : ∀ X, Blk X b_BR2 #[(.slice none 0 0), (.int .i64 0), (.int .u64 0), (.int .i64 0)] 57 → Blk ((((X.setCell ⟨b_BR2, 0, none⟩ (.slice (some ⟨gx, ox, none⟩) n c2)).setCell ⟨b_BR2, 1, none⟩ (.int .i64 ac)).setCell ⟨b_BR2, 2, none⟩ (.int .u64 (s : Int))).setCell ⟨b_BR2, 3, none⟩ (.int .i64 (i + 1))) b_BR2 #[(.slice (some ⟨gx, ox, none⟩) n c2), (.int .i64 ac), (.int .u64 (s : Int)), (.int .i64 (i + 1))] 57 := fun X h => (blk_set (blk_set (blk_set (blk_set h 0 _) 1 _) 2 _) 3 _)
      have LO_BR1_BR2 : ∀ X cs T, Blk X b_BR2 cs T → Blk (((((X.setCell ⟨b_BR1, 0, none⟩ (.int .i64 (q : Int))).setCell ⟨b_BR1, 1, none⟩ (.int .i64 i)).setCell ⟨b_BR1, 2, none⟩ (.bool false)).setCell ⟨b_BR1, 3, none⟩ (.slice a4 x.length c4)).setCell ⟨b_BR1, 4, none⟩ (.int .u64 (t : Int))) b_BR2 cs T := fun X cs T h => (blk_other (blk_other (blk_other (blk_other (blk_other h (by omega) _ _) (by omega) _ _) (by omega) _ _) (by omega) _ _) (by omega) _ _)
      go_region
      all_goals
        go_wp2_with fail
        go_meet
        exact ⟨rfl, hid (by repeat (first | (with_reducible refine LB_BR1 _ ?_) | (with_reducible refine blk_other ?_ (by first | omega | (simp only [World.size_alloc, World.size_drew]; omega) | fail) _ _) | (with_reducible apply blk_drewN) | (with_reducible apply blk_drew) | (with_reducible refine blk_alloc ?_ _) | (with_reducible exact blk_keep BR1.out KC.out (fun h => h)))), hid (by repeat (first | (with_reducible refine LB_BR2 _ ?_) | (with_reducible refine blk_other ?_ (by first | omega | (simp only [World.size_alloc, World.size_drew]; omega) | fail) _ _) | (with_reducible apply blk_drewN) | (with_reducible apply blk_drew) | (with_reducible refine blk_alloc ?_ _) | (with_reducible exact blk_keep BR2.out KC.out (fun h => h)))), hid (by repeat (first | (with_reducible refine Keeps.setCell (S := fun b => b = b_BR1 ∨ b = b_BR2) ?_ (.inl (by first | (with_reducible rfl) | (simp <;> fail) | fail)) _) | (with_reducible apply Keeps.drewN) | (with_reducible apply Keeps.drew) | (with_reducible exact KC.out) | (with_reducible exact Keeps.refl _ _) | (with_reducible exact KC.out.mono (fun _ _ h => h.elim))))⟩
    case rest =>
      obtain ⟨rfl, N_BR1, N_BR2, hk⟩ := hcut
      replace hk := hk.out
      generalize wc = W5 at *
      have BS' : Hd (Blk W5 w.heap.size #[(.slice (some ⟨gx, ox, none⟩) n c2), (.int .i64 ac), (.int .u64 (s : Int)), (.int .i64 (i + 1))] 57) := hid (blk_keep BS.out hk (fun h => by omega))
      have HP' : Hd (BdP (fun b => W1.heap.size ≤ b) W1.heap.size W5 (.slice (some ⟨gx, ox, none⟩) n c2) bs) := hid (HP.out.keep hk (fun b _ h1 h2 => by omega))
      have B_F' : Hd (Blk W5 b_F #[(.int .i64 (q : Int)), (.int .i64 i), (.bool false), (.slice a4 x.length c4), (.int .u64 (t : Int))] 25) := hid (blk_keep B_F.out hk (fun h => by omega))
      have M_0' : Hd (Sl (fun b => W3.heap.size ≤ b) W5 (.slice a4 x.length c4) (u8s x)) := hid (M_0.out.keep hk (fun b h1 h2 h3 => by omega))
      clear BS HP B_F M_0
      have BS := BS'
      clear BS'
      have HP := HP'
      clear HP'
      have B_F := B_F'
      clear B_F'
      have M_0 := M_0'
      clear M_0'
      clear BR1
      have BR1 := N_BR1
      clear N_BR1
      clear BR2
      have BR2 := N_BR2
      clear N_BR2
      have HK' : Hd (Keeps (fun _ => False) w W5) := hid (HK.out.trans' hk (fun i hi h => by omega))
      clear HK
      have HK := HK'
      clear HK'
      have z_W5 := hk.size
      clear hk
      go_wp2
      have rr_BR1_0 := blk_cell BR1.out 0
      have rr_BR1_1 := blk_cell BR1.out 1
      have rr_BR1_2 := blk_cell BR1.out 2
      have rr_BR1_3 := blk_cell BR1.out 3
      have rr_BR1_4 := blk_cell BR1.out 4
      have rr_BR2_0 := blk_cell BR2.out 0
      have rr_BR2_1 := blk_cell BR2.out 1
      have rr_BR2_2 := blk_cell BR2.out 2
      have rr_BR2_3 := blk_cell BR2.out 3
      refine bodyPost_ret (v := .tuple #[.agg #[(.int .i64 (q : Int)), (.int .i64 i), (.bool false), (.slice a4 x.length c4), (.int .u64 (t : Int))], .agg #[(.slice (some ⟨gx, ox, none⟩) n c2), (.int .i64 ac), (.int .u64 (s : Int)), (.int .i64 (i + 1))], .int .i64 0]) (by simp [results, Tryd.results39, go_sem, rr_BR1_0, rr_BR1_1, rr_BR1_2, rr_BR1_3, rr_BR1_4, rr_BR2_0, rr_BR2_1, rr_BR2_2, rr_BR2_3]) rfl ?_
      have hf := HF.out
      have hs := HS.out
      have ht := HT.out
      have hn := HN.out
      obtain ⟨Fq, Fk, Fu, Fb, Ft⟩ := F
      simp only [] at hf ht
      obtain ⟨rfl, rfl, rfl, rfl⟩ := hf
      subst ht hs
      subst hn
      refine ⟨a4, c4, some ⟨gx, ox, none⟩, c2, rfl, M_0.out.mono (fun b _ h => by omega), ?_, HK.out⟩
      exact HP.out.bds.mono (fun b _ h => by omega)
end Go.Proofs.YthoikljmokkchaaDoor
