/- Frame: the sender's signature. -/
import Derived.Test.YthoikljmokkchaaDoorFrF
import Derived.Deep.RegionWith
import Derived.BigRegion
namespace Go.Proofs.YthoikljmokkchaaDoor
open Go.RowKit
def setK (f : Fr) (k : Int) : Fr := ⟨f.q, k, f.u, f.b, f.t⟩
def signF (l : Ld) (f : Fr) : Fr := ⟨f.q, l.i, f.u, f.b, tagN l.k (covL (setK f l.i))⟩
theorem setK_ok {f : Fr} (h : f.ok) {l : Ld} (hl : l.ok) : (setK f l.i).ok := ⟨h.q0, h.q1, by have := hl.i0; show _ ≤ l.i; omega, by have := hl.i1; show l.i ≤ _; omega, h.b, h.t, h.n⟩
theorem signF_ok {f : Fr} (h : f.ok) {l : Ld} (hl : l.ok) : (signF l f).ok := ⟨h.q0, h.q1, by have := hl.i0; show _ ≤ l.i; omega, by have := hl.i1; show l.i ≤ _; omega, h.b, tagN_lt _ _, h.n⟩
theorem nextL_ok {l : Ld} (h : l.ok) (hi : l.i < 1000000000000) : (nextL l).ok := ⟨stepN_lt _, by have := h.i0; show 0 ≤ l.i + 1; omega, by show l.i + 1 ≤ _; omega⟩
theorem LNew_any (k : Nat) (w : World) : Calls Tryd.prog 21 #[.int .u64 (k : Int)] w fun e w' => e = .returned (.agg #[.int .u64 (k : Int), .int .i64 0]) ∧ Keeps (fun _ => False) w w' := by
  go_enter Tryd.func21, Tryd.ntmps21
  go_upto_region 1 with fail
  generalize hW : World.alloc w _ = W1
  have KS : Hd (Keeps (fun _ => False) w W1) := hid (by rw [← hW]; exact (Keeps.alloc (Keeps.refl (fun _ => False) w) _))
  have BR : Hd (Blk W1 w.heap.size #[(.int .u64 0), (.int .i64 0)] 33) := hid (by rw [← hW]; exact (blk_new _ _ _))
  have HK : Hd (Keeps (fun _ => False) w W1) := hid KS.out
  have z_W1 : w.heap.size + 1 ≤ W1.heap.size := by rw [← hW]; simp
  clear hW KS
  have o_BR_0 : W1.cell? ⟨w.heap.size, 0, none⟩ = some ((.int .u64 0)) := blk_cell BR.out 0
  have o_BR_1 : W1.cell? ⟨w.heap.size, 1, none⟩ = some ((.int .i64 0)) := blk_cell BR.out 1
  have f_BR_0 : W1.frozen? ⟨w.heap.size, 0, none⟩ = false := blk_free BR.out 0
  have f_BR_1 : W1.frozen? ⟨w.heap.size, 1, none⟩ = false := blk_free BR.out 1
  go_wp2
  clear o_BR_0 o_BR_1 f_BR_0 f_BR_1
  obtain ⟨HV2, B3⟩ := fin2 HK.out (show w.heap.size ≤ w.heap.size by omega) BR.out (.int .u64 (k : Int)) (.int .i64 0)
  have r0 := blk_cell B3 0
  have r1 := blk_cell B3 1
  refine bodyPost_ret (v := .agg #[.int .u64 (k : Int), .int .i64 0]) (by simp [results, Tryd.results21, go_sem, r0, r1]) rfl ?_
  exact ⟨rfl, HV2⟩
set_option maxRecDepth 100000 in
set_option maxHeartbeats 2000000 in
theorem sign_any (l : Ld) (f : Fr) (ac : Int) (ba : Option Addr) (bn bc : Nat) (K : Nat → Prop) (a : Option Addr) (c : Nat) (w : World) (hl : l.ok) (hf : f.ok) (hx : Sl K w (.slice a f.b.length c) (u8s f.b)) :
    Calls Tryd.prog 75 #[.agg #[.slice ba bn bc, .int .i64 ac, .int .u64 (l.k : Int), .int .i64 l.i], .agg #[.int .i64 f.q, .int .i64 f.k, .bool f.u, .slice a f.b.length c, .int .u64 (f.t : Int)]] w fun e w' => e = .returned (.tuple #[.agg #[.int .i64 f.q, .int .i64 l.i, .bool f.u, .slice a f.b.length c, .int .u64 ((signF l f).t : Int)], .agg #[.slice ba bn bc, .int .i64 ac, .int .u64 (stepN l.k : Nat), .int .i64 (l.i + 1)]]) ∧ Keeps (fun _ => False) w w' := by
  obtain ⟨g, hg⟩ : ∃ g, setK f l.i = g := ⟨_, rfl⟩
  have HGO : Hd g.ok := hid (by rw [← hg]; exact setK_ok hf hl)
  obtain ⟨en, hen⟩ : ∃ en, covL g = en := ⟨_, rfl⟩
  have HEL : Hd (en.length ≤ 140737488355000) := hid (by rw [← hen]; have h1 := covL_len HGO.out; have := HGO.out.n; omega)
  have HET : Hd (∀ c ∈ en, c < 256) := hid (by rw [← hen]; exact covL_lt HGO.out)
  obtain ⟨t, ht⟩ : ∃ t, tagN l.k en = t := ⟨_, rfl⟩
  have hst : (signF l f).t = t := by rw [← ht, ← hen, ← hg]; rfl
  rw [hst]
  have HLO := hid hl
  have HX := hid (hx.mono (K' := fun b => b < w.heap.size) (fun b h _ => h))
  have HG : Hd (g = ⟨f.q, l.i, f.u, f.b, f.t⟩) := hid hg.symm
  have HEN := hid hen; have HT := hid ht
  obtain ⟨k, i⟩ := l
  obtain ⟨s, hs⟩ : ∃ s, stepN k = s := ⟨_, rfl⟩
  simp only [] at *
  rw [hs]
  have HS := hid hs
  have hi0 := HLO.out.i0; have hi1 := HLO.out.i1
  clear hg hen ht hst hl hf hx hs
  go_enter Tryd.func75, Tryd.ntmps75
  go_upto_region 1 with fail
  generalize hW : World.alloc (World.alloc (World.alloc (World.alloc w _) _) _) _ = W1
  have KS : Hd (Keeps (fun _ => False) w W1) := hid (by rw [← hW]; exact (Keeps.alloc (Keeps.alloc (Keeps.alloc (Keeps.alloc (Keeps.refl (fun _ => False) w) _) _) _) _))
  have HX' : Hd (Sl (fun b => b < w.heap.size) W1 (.slice a f.b.length c) (u8s f.b)) := hid (HX.out.keep KS.out (fun _ _ _ h => h))
  have BS : Hd (Blk W1 w.heap.size #[(.slice ba bn bc), (.int .i64 ac), (.int .u64 (k : Int)), (.int .i64 i)] 57) := hid (by rw [← hW]; exact (blk_alloc (blk_alloc (blk_alloc (blk_new _ _ _) _) _) _))
  have BF : Hd (Blk W1 (w.heap.size + 1) #[(.int .i64 f.q), (.int .i64 f.k), (.bool f.u), (.slice a f.b.length c), (.int .u64 (f.t : Int))] 25) := hid (by rw [← hW]; exact (blk_alloc (blk_alloc (blk_new' _ _ _ _ (by simp)) _) _))
  have BR1 : Hd (Blk W1 (w.heap.size + 1 + 1) #[(.int .i64 0), (.int .i64 0), (.bool false), (.slice none 0 0), (.int .u64 0)] 25) := hid (by rw [← hW]; exact (blk_alloc (blk_new' _ _ _ _ (by simp)) _))
  have BR2 : Hd (Blk W1 (w.heap.size + 1 + 1 + 1) #[(.slice none 0 0), (.int .i64 0), (.int .u64 0), (.int .i64 0)] 57) := hid (by rw [← hW]; exact (blk_new' _ _ _ _ (by simp)))
  clear HX
  have HX := HX'
  clear HX'
  have HK : Hd (Keeps (fun _ => False) w W1) := hid KS.out
  have z_W1 : w.heap.size + 4 ≤ W1.heap.size := by rw [← hW]; simp
  clear hW KS
  generalize hb_BR2 : w.heap.size + 1 + 1 + 1 = b_BR2 at *
  generalize hb_BR1 : w.heap.size + 1 + 1 = b_BR1 at *
  generalize hb_BF : w.heap.size + 1 = b_BF at *
  have o_BS_3 : W1.cell? ⟨w.heap.size, 3, none⟩ = some ((.int .i64 i)) := blk_cell BS.out 3
  have o_BF_1 : W1.cell? ⟨b_BF, 1, none⟩ = some ((.int .i64 f.k)) := blk_cell BF.out 1
  have f_BF_1 : W1.frozen? ⟨b_BF, 1, none⟩ = false := blk_free BF.out 1
  go_upto_region 2 with fail
  clear o_BS_3 o_BF_1 f_BF_1
  generalize hW : World.setCell W1 _ _ = W2
  have KS : Hd (Keeps (fun b => b = b_BF) W1 W2) := hid (by rw [← hW]; exact (Keeps.setCell (S := fun b => b = b_BF) (Keeps.refl (fun b => b = b_BF) W1) (.inl rfl) _))
  have HX' : Hd (Sl (fun b => b < w.heap.size) W2 (.slice a f.b.length c) (u8s f.b)) := hid (HX.out.keep KS.out (fun b _ h1 h2 => by omega))
  have BS' : Hd (Blk W2 w.heap.size #[(.slice ba bn bc), (.int .i64 ac), (.int .u64 (k : Int)), (.int .i64 i)] 57) := hid (by rw [← hW]; exact (blk_other BS.out (by omega) _ _))
  have BF' : Hd (Blk W2 b_BF #[(.int .i64 f.q), (.int .i64 i), (.bool f.u), (.slice a f.b.length c), (.int .u64 (f.t : Int))] 25) := hid (by rw [← hW]; exact (blk_set BF.out 1 _))
  have BR1' : Hd (Blk W2 b_BR1 #[(.int .i64 0), (.int .i64 0), (.bool false), (.slice none 0 0), (.int .u64 0)] 25) := hid (by rw [← hW]; exact (blk_other BR1.out (by omega) _ _))
  have BR2' : Hd (Blk W2 b_BR2 #[(.slice none 0 0), (.int .i64 0), (.int .u64 0), (.int .i64 0)] 57) := hid (by rw [← hW]; exact (blk_other BR2.out (by omega) _ _))
  clear HX BS BF BR1 BR2
  have HX := HX'
  clear HX'
  have BS := BS'
  clear BS'
  have BF := BF'
  clear BF'
  have BR1 := BR1'
  clear BR1'
  have BR2 := BR2'
  clear BR2'
  have HK' : Hd (Keeps (fun _ => False) w W2) := hid (HK.out.trans' KS.out (fun i hi h => by omega))
  clear HK
  have HK := HK'
  clear HK'
  have z_W2 : W1.heap.size + 0 ≤ W2.heap.size := by rw [← hW]; simp
  clear hW KS
  have HCS : Hd (∀ X, Keeps (fun _ => False) W2 X → Calls Tryd.prog 14 #[.agg #[.int .i64 f.q, .int .i64 i, .bool f.u, .slice a f.b.length c, .int .u64 (f.t : Int)]] X fun e w' => Cr.NewRet X 5 (u8s en) e w') := hid (fun X hx => by have h := Signed_any g (fun b => b < w.heap.size) a c X HGO.out (by have h := HX.out.keep hx (fun _ _ _ h => h); rw [HG.out]; exact h); rw [HEN.out] at h; simp only [HG.out] at h; exact h)
  have HCL : Hd (∀ X (v : Value) (K : Nat → Prop), Sl K X v (u8s en) → Calls Tryd.prog 50 #[.agg #[.int .u64 (k : Int), .int .i64 i], v] X fun e w' => e = .returned (.tuple #[.int .u64 (t : Int), .agg #[.int .u64 (s : Int), .int .i64 (i + 1)]]) ∧ Keeps (fun _ => False) X w') := hid (fun X v K hv => by have h := LSign_any ⟨k, i⟩ K v en X HLO.out hv HET.out (Nat.le_trans HEL.out (by decide)); simp only [HT.out, HS.out] at h; exact h)
  go_cut [] from 10 to 19 (fun wx => Hd (Blk wx b_BF #[(.int .i64 f.q), (.int .i64 i), (.bool f.u), (.slice a f.b.length c), (.int .u64 (t : Int))] 25) ∧ Hd (Blk wx w.heap.size #[(.slice ba bn bc), (.int .i64 ac), (.int .u64 (s : Int)), (.int .i64 (i + 1))] 57) ∧ Hd (Keeps (fun b => b = b_BF ∨ b = w.heap.size) W2 wx))
  case first =>
    have KC : Hd (Keeps (fun _ => False) W2 W2) := hid (Keeps.refl _ _)
    have sF_BF_0 : W2.cell? ⟨b_BF, 0, none⟩ = some ((.int .i64 f.q)) := blk_cell (blk_keep BF.out KC.out (fun h => h)) 0
    have sG_BF_0 : W2.frozen? ⟨b_BF, 0, none⟩ = false := blk_free (blk_keep BF.out KC.out (fun h => h)) 0
    have sF_BF_1 : W2.cell? ⟨b_BF, 1, none⟩ = some ((.int .i64 i)) := blk_cell (blk_keep BF.out KC.out (fun h => h)) 1
    have sG_BF_1 : W2.frozen? ⟨b_BF, 1, none⟩ = false := blk_free (blk_keep BF.out KC.out (fun h => h)) 1
    have sF_BF_2 : W2.cell? ⟨b_BF, 2, none⟩ = some ((.bool f.u)) := blk_cell (blk_keep BF.out KC.out (fun h => h)) 2
    have sG_BF_2 : W2.frozen? ⟨b_BF, 2, none⟩ = false := blk_free (blk_keep BF.out KC.out (fun h => h)) 2
    have sF_BF_3 : W2.cell? ⟨b_BF, 3, none⟩ = some ((.slice a f.b.length c)) := blk_cell (blk_keep BF.out KC.out (fun h => h)) 3
    have sG_BF_3 : W2.frozen? ⟨b_BF, 3, none⟩ = false := blk_free (blk_keep BF.out KC.out (fun h => h)) 3
    have sF_BF_4 : W2.cell? ⟨b_BF, 4, none⟩ = some ((.int .u64 (f.t : Int))) := blk_cell (blk_keep BF.out KC.out (fun h => h)) 4
    have sG_BF_4 : W2.frozen? ⟨b_BF, 4, none⟩ = false := blk_free (blk_keep BF.out KC.out (fun h => h)) 4
    have sF_BS_0 : W2.cell? ⟨w.heap.size, 0, none⟩ = some ((.slice ba bn bc)) := blk_cell (blk_keep BS.out KC.out (fun h => h)) 0
    have sG_BS_0 : W2.frozen? ⟨w.heap.size, 0, none⟩ = false := blk_free (blk_keep BS.out KC.out (fun h => h)) 0
    have sF_BS_1 : W2.cell? ⟨w.heap.size, 1, none⟩ = some ((.int .i64 ac)) := blk_cell (blk_keep BS.out KC.out (fun h => h)) 1
    have sG_BS_1 : W2.frozen? ⟨w.heap.size, 1, none⟩ = false := blk_free (blk_keep BS.out KC.out (fun h => h)) 1
    have sF_BS_2 : W2.cell? ⟨w.heap.size, 2, none⟩ = some ((.int .u64 (k : Int))) := blk_cell (blk_keep BS.out KC.out (fun h => h)) 2
    have sG_BS_2 : W2.frozen? ⟨w.heap.size, 2, none⟩ = false := blk_free (blk_keep BS.out KC.out (fun h => h)) 2
    have sF_BS_3 : W2.cell? ⟨w.heap.size, 3, none⟩ = some ((.int .i64 i)) := blk_cell (blk_keep BS.out KC.out (fun h => h)) 3
    have sG_BS_3 : W2.frozen? ⟨w.heap.size, 3, none⟩ = false := blk_free (blk_keep BS.out KC.out (fun h => h)) 3
    have LB_BF : ∀ X, Blk X b_BF #[(.int .i64 f.q), (.int .i64 i), (.bool f.u), (.slice a f.b.length c), (.int .u64 (f.t : Int))] 25 → Blk (X.setCell ⟨b_BF, 4, none⟩ (.int .u64 (t : Int))) b_BF #[(.int .i64 f.q), (.int .i64 i), (.bool f.u), (.slice a f.b.length c), (.int .u64 (t : Int))] 25 := fun X h => (blk_set h 4 _)
    have LO_BS_BF : ∀ X cs T, Blk X b_BF cs T → Blk ((X.setCell ⟨w.heap.size, 2, none⟩ (.int .u64 (s : Int))).setCell ⟨w.heap.size, 3, none⟩ (.int .i64 (i + 1))) b_BF cs T := fun X cs T h => (blk_other (blk_other h (by omega) _ _) (by omega) _ _)
    have LB_BS : ∀ X, Blk X w.heap.size #[(.slice ba bn bc), (.int .i64 ac), (.int .u64 (k : Int)), (.int .i64 i)] 57 → Blk ((X.setCell ⟨w.heap.size, 2, none⟩ (.int .u64 (s : Int))).setCell ⟨w.heap.size, 3, none⟩ (.int .i64 (i + 1))) w.heap.size #[(.slice ba bn bc), (.int .i64 ac), (.int .u64 (s : Int)), (.int .i64 (i + 1))] 57 := fun X h => (blk_set (blk_set h 2 _) 3 _)
    have LO_BF_BS : ∀ X cs T, Blk X w.heap.size cs T → Blk (X.setCell ⟨b_BF, 4, none⟩ (.int .u64 (t : Int))) w.heap.size cs T := fun X cs T h => (blk_other h (by omega) _ _)
    go_region_with (first
      | (go_at_call 14; (refine (HCS.out _ (by repeat (first | (with_reducible exact KC.out) | (with_reducible exact Keeps.refl _ _) | (with_reducible apply Keeps.drewN) | (with_reducible apply Keeps.drew) | (with_reducible apply Keeps.alloc)))).mono ?_); rintro e wy0 ⟨an, nn, cn, rfl, hnn, hon, hk⟩; have KC2 : Hd (Keeps (fun _ => False) W2 wy0) := hid (Keeps.trans (S := fun _ => False) (by repeat (first | (with_reducible exact KC.out) | (with_reducible exact Keeps.refl _ _) | (with_reducible apply Keeps.drewN) | (with_reducible apply Keeps.drew) | (with_reducible apply Keeps.alloc))) hk); have zc := KC.out.size; have zk := hk.size; (try simp at zk); have HSL : Hd (Sl (fun _ => True) wy0 (.slice an nn cn) (u8s en)) := hid ((row_sl hon.row hnn.symm).mono (fun _ _ _ => trivial)); clear hnn hon; replace KC := KC2; clear KC2; have sF_BF_0 : wy0.cell? ⟨b_BF, 0, none⟩ = some ((.int .i64 f.q)) := blk_cell (blk_keep BF.out KC.out (fun h => h)) 0; have sG_BF_0 : wy0.frozen? ⟨b_BF, 0, none⟩ = false := blk_free (blk_keep BF.out KC.out (fun h => h)) 0; have sF_BF_1 : wy0.cell? ⟨b_BF, 1, none⟩ = some ((.int .i64 i)) := blk_cell (blk_keep BF.out KC.out (fun h => h)) 1; have sG_BF_1 : wy0.frozen? ⟨b_BF, 1, none⟩ = false := blk_free (blk_keep BF.out KC.out (fun h => h)) 1; have sF_BF_2 : wy0.cell? ⟨b_BF, 2, none⟩ = some ((.bool f.u)) := blk_cell (blk_keep BF.out KC.out (fun h => h)) 2; have sG_BF_2 : wy0.frozen? ⟨b_BF, 2, none⟩ = false := blk_free (blk_keep BF.out KC.out (fun h => h)) 2; have sF_BF_3 : wy0.cell? ⟨b_BF, 3, none⟩ = some ((.slice a f.b.length c)) := blk_cell (blk_keep BF.out KC.out (fun h => h)) 3; have sG_BF_3 : wy0.frozen? ⟨b_BF, 3, none⟩ = false := blk_free (blk_keep BF.out KC.out (fun h => h)) 3; have sF_BF_4 : wy0.cell? ⟨b_BF, 4, none⟩ = some ((.int .u64 (f.t : Int))) := blk_cell (blk_keep BF.out KC.out (fun h => h)) 4; have sG_BF_4 : wy0.frozen? ⟨b_BF, 4, none⟩ = false := blk_free (blk_keep BF.out KC.out (fun h => h)) 4; have sF_BS_0 : wy0.cell? ⟨w.heap.size, 0, none⟩ = some ((.slice ba bn bc)) := blk_cell (blk_keep BS.out KC.out (fun h => h)) 0; have sG_BS_0 : wy0.frozen? ⟨w.heap.size, 0, none⟩ = false := blk_free (blk_keep BS.out KC.out (fun h => h)) 0; have sF_BS_1 : wy0.cell? ⟨w.heap.size, 1, none⟩ = some ((.int .i64 ac)) := blk_cell (blk_keep BS.out KC.out (fun h => h)) 1; have sG_BS_1 : wy0.frozen? ⟨w.heap.size, 1, none⟩ = false := blk_free (blk_keep BS.out KC.out (fun h => h)) 1; have sF_BS_2 : wy0.cell? ⟨w.heap.size, 2, none⟩ = some ((.int .u64 (k : Int))) := blk_cell (blk_keep BS.out KC.out (fun h => h)) 2; have sG_BS_2 : wy0.frozen? ⟨w.heap.size, 2, none⟩ = false := blk_free (blk_keep BS.out KC.out (fun h => h)) 2; have sF_BS_3 : wy0.cell? ⟨w.heap.size, 3, none⟩ = some ((.int .i64 i)) := blk_cell (blk_keep BS.out KC.out (fun h => h)) 3; have sG_BS_3 : wy0.frozen? ⟨w.heap.size, 3, none⟩ = false := blk_free (blk_keep BS.out KC.out (fun h => h)) 3; replace hk := hid hk)
      | (go_at_call 50; (refine (HCL.out _ _ _ HSL.out).mono ?_); rintro e wy1 ⟨rfl, hk⟩; have KC2 : Hd (Keeps (fun _ => False) W2 wy1) := hid (Keeps.trans (S := fun _ => False) (by repeat (first | (with_reducible exact KC.out) | (with_reducible exact Keeps.refl _ _) | (with_reducible apply Keeps.drewN) | (with_reducible apply Keeps.drew) | (with_reducible apply Keeps.alloc))) hk); have zc := KC.out.size; have zk := hk.size; (try simp at zk); clear HSL; replace KC := KC2; clear KC2; have sF_BF_0 : wy1.cell? ⟨b_BF, 0, none⟩ = some ((.int .i64 f.q)) := blk_cell (blk_keep BF.out KC.out (fun h => h)) 0; have sG_BF_0 : wy1.frozen? ⟨b_BF, 0, none⟩ = false := blk_free (blk_keep BF.out KC.out (fun h => h)) 0; have sF_BF_1 : wy1.cell? ⟨b_BF, 1, none⟩ = some ((.int .i64 i)) := blk_cell (blk_keep BF.out KC.out (fun h => h)) 1; have sG_BF_1 : wy1.frozen? ⟨b_BF, 1, none⟩ = false := blk_free (blk_keep BF.out KC.out (fun h => h)) 1; have sF_BF_2 : wy1.cell? ⟨b_BF, 2, none⟩ = some ((.bool f.u)) := blk_cell (blk_keep BF.out KC.out (fun h => h)) 2; have sG_BF_2 : wy1.frozen? ⟨b_BF, 2, none⟩ = false := blk_free (blk_keep BF.out KC.out (fun h => h)) 2; have sF_BF_3 : wy1.cell? ⟨b_BF, 3, none⟩ = some ((.slice a f.b.length c)) := blk_cell (blk_keep BF.out KC.out (fun h => h)) 3; have sG_BF_3 : wy1.frozen? ⟨b_BF, 3, none⟩ = false := blk_free (blk_keep BF.out KC.out (fun h => h)) 3; have sF_BF_4 : wy1.cell? ⟨b_BF, 4, none⟩ = some ((.int .u64 (f.t : Int))) := blk_cell (blk_keep BF.out KC.out (fun h => h)) 4; have sG_BF_4 : wy1.frozen? ⟨b_BF, 4, none⟩ = false := blk_free (blk_keep BF.out KC.out (fun h => h)) 4; have sF_BS_0 : wy1.cell? ⟨w.heap.size, 0, none⟩ = some ((.slice ba bn bc)) := blk_cell (blk_keep BS.out KC.out (fun h => h)) 0; have sG_BS_0 : wy1.frozen? ⟨w.heap.size, 0, none⟩ = false := blk_free (blk_keep BS.out KC.out (fun h => h)) 0; have sF_BS_1 : wy1.cell? ⟨w.heap.size, 1, none⟩ = some ((.int .i64 ac)) := blk_cell (blk_keep BS.out KC.out (fun h => h)) 1; have sG_BS_1 : wy1.frozen? ⟨w.heap.size, 1, none⟩ = false := blk_free (blk_keep BS.out KC.out (fun h => h)) 1; have sF_BS_2 : wy1.cell? ⟨w.heap.size, 2, none⟩ = some ((.int .u64 (k : Int))) := blk_cell (blk_keep BS.out KC.out (fun h => h)) 2; have sG_BS_2 : wy1.frozen? ⟨w.heap.size, 2, none⟩ = false := blk_free (blk_keep BS.out KC.out (fun h => h)) 2; have sF_BS_3 : wy1.cell? ⟨w.heap.size, 3, none⟩ = some ((.int .i64 i)) := blk_cell (blk_keep BS.out KC.out (fun h => h)) 3; have sG_BS_3 : wy1.frozen? ⟨w.heap.size, 3, none⟩ = false := blk_free (blk_keep BS.out KC.out (fun h => h)) 3; replace hk := hid hk))
    all_goals
      go_wp2_with fail
      go_meet
      exact ⟨hid (by repeat (first | (with_reducible refine LB_BF _ ?_) | (with_reducible refine blk_other ?_ (by first | omega | (simp only [World.size_alloc, World.size_drew]; omega)) _ _) | (with_reducible apply blk_drewN) | (with_reducible apply blk_drew) | (with_reducible refine blk_alloc ?_ _) | (with_reducible exact blk_keep BF.out KC.out (fun h => h)))), hid (by repeat (first | (with_reducible refine LB_BS _ ?_) | (with_reducible refine blk_other ?_ (by first | omega | (simp only [World.size_alloc, World.size_drew]; omega)) _ _) | (with_reducible apply blk_drewN) | (with_reducible apply blk_drew) | (with_reducible refine blk_alloc ?_ _) | (with_reducible exact blk_keep BS.out KC.out (fun h => h)))), hid (by repeat (first | (with_reducible refine Keeps.setCell (S := fun b => b = b_BF ∨ b = w.heap.size) ?_ (.inl (by simp)) _) | (with_reducible apply Keeps.drewN) | (with_reducible apply Keeps.drew) | (with_reducible exact KC.out) | (with_reducible exact Keeps.refl _ _) | (with_reducible exact KC.out.mono (fun _ _ h => h.elim))))⟩
  case rest =>
    obtain ⟨N_BF, N_BS, hk⟩ := hcut
    replace hk := hk.out
    generalize wc = W3 at *
    have HX' : Hd (Sl (fun b => b < w.heap.size) W3 (.slice a f.b.length c) (u8s f.b)) := hid (HX.out.keep hk (fun b _ h1 h2 => by omega))
    have BR1' : Hd (Blk W3 b_BR1 #[(.int .i64 0), (.int .i64 0), (.bool false), (.slice none 0 0), (.int .u64 0)] 25) := hid (blk_keep BR1.out hk (fun h => by omega))
    have BR2' : Hd (Blk W3 b_BR2 #[(.slice none 0 0), (.int .i64 0), (.int .u64 0), (.int .i64 0)] 57) := hid (blk_keep BR2.out hk (fun h => by omega))
    clear HX BR1 BR2
    have HX := HX'
    clear HX'
    have BR1 := BR1'
    clear BR1'
    have BR2 := BR2'
    clear BR2'
    clear BF
    have BF := N_BF
    clear N_BF
    clear BS
    have BS := N_BS
    clear N_BS
    have HK' : Hd (Keeps (fun _ => False) w W3) := hid (HK.out.trans' hk (fun i hi h => by omega))
    clear HK
    have HK := HK'
    clear HK'
    have z_W3 := hk.size
    clear hk
    clear HCS HCL
    go_upto_region 3 with fail
    go_cut [] from 20 to 21 (fun wx => Hd (Blk wx b_BR1 #[(.int .i64 f.q), (.int .i64 i), (.bool f.u), (.slice a f.b.length c), (.int .u64 (t : Int))] 25) ∧ Hd (Blk wx b_BR2 #[(.slice ba bn bc), (.int .i64 ac), (.int .u64 (s : Int)), (.int .i64 (i + 1))] 57) ∧ Hd (Keeps (fun b => b = b_BR1 ∨ b = b_BR2) W3 wx))
    case first =>
      have KC : Hd (Keeps (fun _ => False) W3 W3) := hid (Keeps.refl _ _)
      have HSS : Hd (∀ w', Keeps (fun b => b = b_BR1 ∨ b = b_BR2) W3 w' → (w'.cell? ⟨b_BF, 0, none⟩ = some ((.int .i64 f.q)) ∧ w'.cell? ⟨b_BF, 1, none⟩ = some ((.int .i64 i)) ∧ w'.cell? ⟨b_BF, 2, none⟩ = some ((.bool f.u)) ∧ w'.cell? ⟨b_BF, 3, none⟩ = some ((.slice a f.b.length c)) ∧ w'.cell? ⟨b_BF, 4, none⟩ = some ((.int .u64 (t : Int))) ∧ w'.cell? ⟨w.heap.size, 0, none⟩ = some ((.slice ba bn bc)) ∧ w'.cell? ⟨w.heap.size, 1, none⟩ = some ((.int .i64 ac)) ∧ w'.cell? ⟨w.heap.size, 2, none⟩ = some ((.int .u64 (s : Int))) ∧ w'.cell? ⟨w.heap.size, 3, none⟩ = some ((.int .i64 (i + 1))))) := hid (fun w' hk => ⟨blk_cell (blk_keep BF.out hk (fun h => by omega)) 0, blk_cell (blk_keep BF.out hk (fun h => by omega)) 1, blk_cell (blk_keep BF.out hk (fun h => by omega)) 2, blk_cell (blk_keep BF.out hk (fun h => by omega)) 3, blk_cell (blk_keep BF.out hk (fun h => by omega)) 4, blk_cell (blk_keep BS.out hk (fun h => by omega)) 0, blk_cell (blk_keep BS.out hk (fun h => by omega)) 1, blk_cell (blk_keep BS.out hk (fun h => by omega)) 2, blk_cell (blk_keep BS.out hk (fun h => by omega)) 3⟩)
      have sF_BR1_0 : W3.cell? ⟨b_BR1, 0, none⟩ = some ((.int .i64 0)) := blk_cell (blk_keep BR1.out KC.out (fun h => h)) 0
      have sG_BR1_0 : W3.frozen? ⟨b_BR1, 0, none⟩ = false := blk_free (blk_keep BR1.out KC.out (fun h => h)) 0
      have sF_BR1_1 : W3.cell? ⟨b_BR1, 1, none⟩ = some ((.int .i64 0)) := blk_cell (blk_keep BR1.out KC.out (fun h => h)) 1
      have sG_BR1_1 : W3.frozen? ⟨b_BR1, 1, none⟩ = false := blk_free (blk_keep BR1.out KC.out (fun h => h)) 1
      have sF_BR1_2 : W3.cell? ⟨b_BR1, 2, none⟩ = some ((.bool false)) := blk_cell (blk_keep BR1.out KC.out (fun h => h)) 2
      have sG_BR1_2 : W3.frozen? ⟨b_BR1, 2, none⟩ = false := blk_free (blk_keep BR1.out KC.out (fun h => h)) 2
      have sF_BR1_3 : W3.cell? ⟨b_BR1, 3, none⟩ = some ((.slice none 0 0)) := blk_cell (blk_keep BR1.out KC.out (fun h => h)) 3
      have sG_BR1_3 : W3.frozen? ⟨b_BR1, 3, none⟩ = false := blk_free (blk_keep BR1.out KC.out (fun h => h)) 3
      have sF_BR1_4 : W3.cell? ⟨b_BR1, 4, none⟩ = some ((.int .u64 0)) := blk_cell (blk_keep BR1.out KC.out (fun h => h)) 4
      have sG_BR1_4 : W3.frozen? ⟨b_BR1, 4, none⟩ = false := blk_free (blk_keep BR1.out KC.out (fun h => h)) 4
      have sF_BR2_0 : W3.cell? ⟨b_BR2, 0, none⟩ = some ((.slice none 0 0)) := blk_cell (blk_keep BR2.out KC.out (fun h => h)) 0
      have sG_BR2_0 : W3.frozen? ⟨b_BR2, 0, none⟩ = false := blk_free (blk_keep BR2.out KC.out (fun h => h)) 0
      have sF_BR2_1 : W3.cell? ⟨b_BR2, 1, none⟩ = some ((.int .i64 0)) := blk_cell (blk_keep BR2.out KC.out (fun h => h)) 1
      have sG_BR2_1 : W3.frozen? ⟨b_BR2, 1, none⟩ = false := blk_free (blk_keep BR2.out KC.out (fun h => h)) 1
      have sF_BR2_2 : W3.cell? ⟨b_BR2, 2, none⟩ = some ((.int .u64 0)) := blk_cell (blk_keep BR2.out KC.out (fun h => h)) 2
      have sG_BR2_2 : W3.frozen? ⟨b_BR2, 2, none⟩ = false := blk_free (blk_keep BR2.out KC.out (fun h => h)) 2
      have sF_BR2_3 : W3.cell? ⟨b_BR2, 3, none⟩ = some ((.int .i64 0)) := blk_cell (blk_keep BR2.out KC.out (fun h => h)) 3
      have sG_BR2_3 : W3.frozen? ⟨b_BR2, 3, none⟩ = false := blk_free (blk_keep BR2.out KC.out (fun h => h)) 3
      have sL_BF_0 : W3.cell? ⟨b_BF, 0, none⟩ = some ((.int .i64 f.q)) := blk_cell (blk_keep BF.out KC.out (fun h => h)) 0
      have sL_BF_1 : W3.cell? ⟨b_BF, 1, none⟩ = some ((.int .i64 i)) := blk_cell (blk_keep BF.out KC.out (fun h => h)) 1
      have sL_BF_2 : W3.cell? ⟨b_BF, 2, none⟩ = some ((.bool f.u)) := blk_cell (blk_keep BF.out KC.out (fun h => h)) 2
      have sL_BF_3 : W3.cell? ⟨b_BF, 3, none⟩ = some ((.slice a f.b.length c)) := blk_cell (blk_keep BF.out KC.out (fun h => h)) 3
      have sL_BF_4 : W3.cell? ⟨b_BF, 4, none⟩ = some ((.int .u64 (t : Int))) := blk_cell (blk_keep BF.out KC.out (fun h => h)) 4
      have sL_BS_0 : W3.cell? ⟨w.heap.size, 0, none⟩ = some ((.slice ba bn bc)) := blk_cell (blk_keep BS.out KC.out (fun h => h)) 0
      have sL_BS_1 : W3.cell? ⟨w.heap.size, 1, none⟩ = some ((.int .i64 ac)) := blk_cell (blk_keep BS.out KC.out (fun h => h)) 1
      have sL_BS_2 : W3.cell? ⟨w.heap.size, 2, none⟩ = some ((.int .u64 (s : Int))) := blk_cell (blk_keep BS.out KC.out (fun h => h)) 2
      have sL_BS_3 : W3.cell? ⟨w.heap.size, 3, none⟩ = some ((.int .i64 (i + 1))) := blk_cell (blk_keep BS.out KC.out (fun h => h)) 3
      have LB_BR1 : ∀ X, Blk X b_BR1 #[(.int .i64 0), (.int .i64 0), (.bool false), (.slice none 0 0), (.int .u64 0)] 25 → Blk (((((X.setCell ⟨b_BR1, 0, none⟩ (.int .i64 f.q)).setCell ⟨b_BR1, 1, none⟩ (.int .i64 i)).setCell ⟨b_BR1, 2, none⟩ (.bool f.u)).setCell ⟨b_BR1, 3, none⟩ (.slice a f.b.length c)).setCell ⟨b_BR1, 4, none⟩ (.int .u64 (t : Int))) b_BR1 #[(.int .i64 f.q), (.int .i64 i), (.bool f.u), (.slice a f.b.length c), (.int .u64 (t : Int))] 25 := fun X h => (blk_set (blk_set (blk_set (blk_set (blk_set h 0 _) 1 _) 2 _) 3 _) 4 _)
      have LO_BR2_BR1 : ∀ X cs T, Blk X b_BR1 cs T → Blk ((((X.setCell ⟨b_BR2, 0, none⟩ (.slice ba bn bc)).setCell ⟨b_BR2, 1, none⟩ (.int .i64 ac)).setCell ⟨b_BR2, 2, none⟩ (.int .u64 (s : Int))).setCell ⟨b_BR2, 3, none⟩ (.int .i64 (i + 1))) b_BR1 cs T := fun X cs T h => (blk_other (blk_other (blk_other (blk_other h (by omega) _ _) (by omega) _ _) (by omega) _ _) (by omega) _ _)
      have LB_BR2 : ∀ X, Blk X b_BR2 #[(.slice none 0 0), (.int .i64 0), (.int .u64 0), (.int .i64 0)] 57 → Blk ((((X.setCell ⟨b_BR2, 0, none⟩ (.slice ba bn bc)).setCell ⟨b_BR2, 1, none⟩ (.int .i64 ac)).setCell ⟨b_BR2, 2, none⟩ (.int .u64 (s : Int))).setCell ⟨b_BR2, 3, none⟩ (.int .i64 (i + 1))) b_BR2 #[(.slice ba bn bc), (.int .i64 ac), (.int .u64 (s : Int)), (.int .i64 (i + 1))] 57 := fun X h => (blk_set (blk_set (blk_set (blk_set h 0 _) 1 _) 2 _) 3 _)
      have LO_BR1_BR2 : ∀ X cs T, Blk X b_BR2 cs T → Blk (((((X.setCell ⟨b_BR1, 0, none⟩ (.int .i64 f.q)).setCell ⟨b_BR1, 1, none⟩ (.int .i64 i)).setCell ⟨b_BR1, 2, none⟩ (.bool f.u)).setCell ⟨b_BR1, 3, none⟩ (.slice a f.b.length c)).setCell ⟨b_BR1, 4, none⟩ (.int .u64 (t : Int))) b_BR2 cs T := fun X cs T h => (blk_other (blk_other (blk_other (blk_other (blk_other h (by omega) _ _) (by omega) _ _) (by omega) _ _) (by omega) _ _) (by omega) _ _)
      go_region
      all_goals
        go_wp2_with fail
        go_meet
        exact ⟨hid (by repeat (first | (with_reducible refine LB_BR1 _ ?_) | (with_reducible refine blk_other ?_ (by first | omega | (simp only [World.size_alloc, World.size_drew]; omega)) _ _) | (with_reducible apply blk_drewN) | (with_reducible apply blk_drew) | (with_reducible refine blk_alloc ?_ _) | (with_reducible exact blk_keep BR1.out KC.out (fun h => h)))), hid (by repeat (first | (with_reducible refine LB_BR2 _ ?_) | (with_reducible refine blk_other ?_ (by first | omega | (simp only [World.size_alloc, World.size_drew]; omega)) _ _) | (with_reducible apply blk_drewN) | (with_reducible apply blk_drew) | (with_reducible refine blk_alloc ?_ _) | (with_reducible exact blk_keep BR2.out KC.out (fun h => h)))), hid (by repeat (first | (with_reducible refine Keeps.setCell (S := fun b => b = b_BR1 ∨ b = b_BR2) ?_ (.inl (by simp)) _) | (with_reducible apply Keeps.drewN) | (with_reducible apply Keeps.drew) | (with_reducible exact KC.out) | (with_reducible exact Keeps.refl _ _) | (with_reducible exact KC.out.mono (fun _ _ h => h.elim))))⟩
    case rest =>
      obtain ⟨N_BR1, N_BR2, hk⟩ := hcut
      replace hk := hk.out
      generalize wc = W4 at *
      have HX' : Hd (Sl (fun b => b < w.heap.size) W4 (.slice a f.b.length c) (u8s f.b)) := hid (HX.out.keep hk (fun b _ h1 h2 => by omega))
      have BS' : Hd (Blk W4 w.heap.size #[(.slice ba bn bc), (.int .i64 ac), (.int .u64 (s : Int)), (.int .i64 (i + 1))] 57) := hid (blk_keep BS.out hk (fun h => by omega))
      have BF' : Hd (Blk W4 b_BF #[(.int .i64 f.q), (.int .i64 i), (.bool f.u), (.slice a f.b.length c), (.int .u64 (t : Int))] 25) := hid (blk_keep BF.out hk (fun h => by omega))
      clear HX BS BF
      have HX := HX'
      clear HX'
      have BS := BS'
      clear BS'
      have BF := BF'
      clear BF'
      clear BR1
      have BR1 := N_BR1
      clear N_BR1
      clear BR2
      have BR2 := N_BR2
      clear N_BR2
      have HK' : Hd (Keeps (fun _ => False) w W4) := hid (HK.out.trans' hk (fun i hi h => by omega))
      clear HK
      have HK := HK'
      clear HK'
      have z_W4 := hk.size
      clear hk
      go_wp2
      have rr_BR1_0 := blk_cell BR1.out 0
      have rr_BR1_1 := blk_cell BR1.out 1
      have rr_BR1_2 := blk_cell BR1.out 2
      have rr_BR1_3 := blk_cell BR1.out 3
      have rr_BR1_4 := blk_cell BR1.out 4
      have rr_BR2_0 := blk_cell BR2.out 0
      have rr_BR2_1 := blk_cell BR2.out 1
      have rr_BR2_2 := blk_cell BR2.out 2
      have rr_BR2_3 := blk_cell BR2.out 3
      refine bodyPost_ret (v := .tuple #[.agg #[(.int .i64 f.q), (.int .i64 i), (.bool f.u), (.slice a f.b.length c), (.int .u64 (t : Int))], .agg #[(.slice ba bn bc), (.int .i64 ac), (.int .u64 (s : Int)), (.int .i64 (i + 1))]]) (by simp [results, Tryd.results75, go_sem, rr_BR1_0, rr_BR1_1, rr_BR1_2, rr_BR1_3, rr_BR1_4, rr_BR2_0, rr_BR2_1, rr_BR2_2, rr_BR2_3]) rfl ?_
      exact ⟨rfl, HK.out⟩
end Go.Proofs.YthoikljmokkchaaDoor
