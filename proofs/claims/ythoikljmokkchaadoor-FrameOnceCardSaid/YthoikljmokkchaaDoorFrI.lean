/- Frame: Emit's last way. -/
import Derived.Test.YthoikljmokkchaaDoorFrIa
import Derived.Deep.DrawnRows
namespace Go.Proofs.YthoikljmokkchaaDoor
open Go.RowKit
attribute [local go_sem ↓] Go.wp_at_zero Go.wp_at_succ
def ldE : Op := Op.load 57 (.tmp 2)
theorem ldE_eq : Op.load 57 (.tmp 2) = ldE := rfl
attribute [local go_sem] ldE
def EmitR (w : World) (bs : List (List Nat)) (f : Fr) (ac : Int) (l : Ld) (e : Ending) (w' : World) : Prop := ∃ a c a2 c2, e = .returned (.tuple #[.agg #[.int .i64 f.q, .int .i64 f.k, .bool f.u, .slice a f.b.length c, .int .u64 (f.t : Int)], .agg #[.slice a2 bs.length c2, .int .i64 ac, .int .u64 (l.k : Int), .int .i64 l.i], .int .i64 0]) ∧
  Sl (fun b => w.heap.size ≤ b) w' (.slice a f.b.length c) (u8s f.b) ∧ Bds (fun b => w.heap.size ≤ b) w' (.slice a2 bs.length c2) bs ∧ Keeps (fun _ => False) w w'
set_option maxRecDepth 100000 in
set_option maxHeartbeats 20000000 in
theorem Emit_ok (bs : List (List Nat)) (x : List Nat) (ba : Option Addr) (bc : Nat) (ac : Int) (l : Ld) (q : Nat) (K : Nat → Prop) (w : World) (hv : Bds K w (.slice ba bs.length bc) bs) (hn : bs.length ≤ 100000) (hx : ∀ x ∈ bs, x.length ≤ 512 ∧ ∀ c ∈ x, c < 256) (hl : l.ok) (hq : bs[q]? = some x) (ha : 0 ≤ ac) (h2 : ac ≤ q) (h3 : (q : Int) < ac + 16) :
    Calls Tryd.prog 39 #[.agg #[.slice ba bs.length bc, .int .i64 ac, .int .u64 (l.k : Int), .int .i64 l.i], .int .i64 (q : Int)] w fun e w' => EmitR w bs (signF l ⟨q, 0, false, x, 0⟩) ac (nextL l) e w' := by
  have HV := hid (hv.mono (K' := fun b => b < w.heap.size) (fun b h _ => h)); have HX := hid hx
  have hqn : q < bs.length := (List.getElem?_eq_some_iff.1 hq).1
  have hxx := hx x (List.mem_of_getElem? hq)
  have hfo : (⟨q, 0, false, x, 0⟩ : Fr).ok := ⟨by show _ ≤ (q : Int); omega, by show (q : Int) ≤ _; omega, by show _ ≤ (0 : Int); omega, by show (0 : Int) ≤ _; omega, hxx.2, by show 0 < _; omega, by show x.length ≤ _; omega⟩
  have HFO := hid hfo; have HLO := hid hl; have HQ := hid hq
  have hx5 : x.length ≤ 512 := hxx.1
  obtain ⟨F, hF⟩ : ∃ F, signF l ⟨q, 0, false, x, 0⟩ = F := ⟨_, rfl⟩
  have HF : Hd (F.q = q ∧ F.k = l.i ∧ F.u = false ∧ F.b = x) := hid (by rw [← hF]; exact ⟨rfl, rfl, rfl, rfl⟩)
  have HFT : Hd ((signF l ⟨q, 0, false, x, 0⟩).t = F.t) := hid (by rw [hF])
  rw [hF]
  clear hF hv hx hl hq hxx hfo
  obtain ⟨n, hnn⟩ : ∃ n, bs.length = n := ⟨_, rfl⟩
  have HN := hid hnn
  rw [hnn] at HV hn hqn ⊢
  clear hnn
  obtain ⟨t, ht⟩ : ∃ t, F.t = t := ⟨_, rfl⟩
  have HT := hid ht
  rw [ht] at HFT
  clear ht
  obtain ⟨k, i⟩ := l
  have hi0 := HLO.out.i0; have hi1 := HLO.out.i1
  simp only [] at *
  obtain ⟨s, hs⟩ : ∃ s, stepN k = s := ⟨_, rfl⟩
  have HS := hid hs
  clear hs
  have q1 : (q : Int) < n := by omega
  have q2 : (0 : Int) ≤ q := by omega
  have hw : IntKind.i64.wrap (ac + 16) = ac + 16 := IntWalk.i64_in _ (by omega)
  go_enter Tryd.func39, Tryd.ntmps39
  go_upto_region 1 with fail
  generalize hW : World.alloc (World.alloc (World.alloc w _) _) _ = W1
  have KS : Hd (Keeps (fun _ => False) w W1) := hid (by rw [← hW]; exact (Keeps.alloc (Keeps.alloc (Keeps.alloc (Keeps.refl (fun _ => False) w) _) _) _))
  have HV' : Hd (Bds (fun b => b < w.heap.size) W1 (.slice ba n bc) bs) := hid (HV.out.keep KS.out (fun _ _ _ h => h))
  have BS : Hd (Blk W1 w.heap.size #[(.slice ba n bc), (.int .i64 ac), (.int .u64 (k : Int)), (.int .i64 i)] 57) := hid (by rw [← hW]; exact (blk_alloc (blk_alloc (blk_new _ _ _) _) _))
  have BR1 : Hd (Blk W1 (w.heap.size + 1) #[(.int .i64 0), (.int .i64 0), (.bool false), (.slice none 0 0), (.int .u64 0)] 25) := hid (by rw [← hW]; exact (blk_alloc (blk_new' _ _ _ _ (by simp)) _))
  have BR2 : Hd (Blk W1 (w.heap.size + 1 + 1) #[(.slice none 0 0), (.int .i64 0), (.int .u64 0), (.int .i64 0)] 57) := hid (by rw [← hW]; exact (blk_new' _ _ _ _ (by simp)))
  clear HV
  have HV := HV'
  clear HV'
  have HK : Hd (Keeps (fun _ => False) w W1) := hid KS.out
  have z_W1 : w.heap.size + 3 ≤ W1.heap.size := by rw [← hW]; simp
  clear hW KS
  generalize hb_BR2 : w.heap.size + 1 + 1 = b_BR2 at *
  generalize hb_BR1 : w.heap.size + 1 = b_BR1 at *
  have o_BS_0 : W1.cell? ⟨w.heap.size, 0, none⟩ = some ((.slice ba n bc)) := blk_cell BS.out 0
  have o_BS_1 : W1.cell? ⟨w.heap.size, 1, none⟩ = some ((.int .i64 ac)) := blk_cell BS.out 1
  go_wp2_with fail
  refine (cloned_any _ _ bs _ HV.out (by rw [HN.out]; omega) (fun x hx => by have := (HX.out x hx).1; omega)).mono ?_
  rw [HN.out]
  rintro e W2 ⟨a2, c2, rfl, hp, hk⟩
  have HP := hid hp
  clear hp
  clear o_BS_0 o_BS_1
  have HV' : Hd (Bds (fun b => b < w.heap.size) W2 (.slice ba n bc) bs) := hid (HV.out.keep hk (fun _ _ _ h => h))
  have BS' : Hd (Blk W2 w.heap.size #[(.slice ba n bc), (.int .i64 ac), (.int .u64 (k : Int)), (.int .i64 i)] 57) := hid (blk_keep BS.out hk (fun h => h))
  have BR1' : Hd (Blk W2 b_BR1 #[(.int .i64 0), (.int .i64 0), (.bool false), (.slice none 0 0), (.int .u64 0)] 25) := hid (blk_keep BR1.out hk (fun h => h))
  have BR2' : Hd (Blk W2 b_BR2 #[(.slice none 0 0), (.int .i64 0), (.int .u64 0), (.int .i64 0)] 57) := hid (blk_keep BR2.out hk (fun h => h))
  clear HV BS BR1 BR2
  have HV := HV'
  clear HV'
  have BS := BS'
  clear BS'
  have BR1 := BR1'
  clear BR1'
  have BR2 := BR2'
  clear BR2'
  have HK' : Hd (Keeps (fun _ => False) w W2) := hid (HK.out.trans hk)
  clear HK
  have HK := HK'
  clear HK'
  have z_W2 := hk.size
  clear hk
  clear HV
  clear hw
  have o_BS_0 : W2.cell? ⟨w.heap.size, 0, none⟩ = some ((.slice ba n bc)) := blk_cell BS.out 0
  have f_BS_0 : W2.frozen? ⟨w.heap.size, 0, none⟩ = false := blk_free BS.out 0
  go_upto_region 8 with fail
  clear o_BS_0 f_BS_0
  have lt_HP := bdp_lt HP.out
  generalize hW : World.setCell W2 _ _ = W3
  have KS : Hd (Keeps (fun b => b = w.heap.size) W2 W3) := hid (by rw [← hW]; exact (Keeps.setCell (S := fun b => b = w.heap.size) (p := ⟨w.heap.size, 0, none⟩) (Keeps.refl (fun b => b = w.heap.size) W2) (.inl rfl) _))
  have BS' : Hd (Blk W3 w.heap.size #[(.slice a2 n c2), (.int .i64 ac), (.int .u64 (k : Int)), (.int .i64 i)] 57) := hid (by rw [← hW]; exact (blk_set BS.out 0 _))
  have BR1' : Hd (Blk W3 b_BR1 #[(.int .i64 0), (.int .i64 0), (.bool false), (.slice none 0 0), (.int .u64 0)] 25) := hid (by rw [← hW]; exact (blk_other BR1.out (by omega) _ _))
  have BR2' : Hd (Blk W3 b_BR2 #[(.slice none 0 0), (.int .i64 0), (.int .u64 0), (.int .i64 0)] 57) := hid (by rw [← hW]; exact (blk_other BR2.out (by omega) _ _))
  have HP' : Hd (BdP (fun b => W1.heap.size ≤ b) W1.heap.size W3 (.slice a2 n c2) bs) := hid (HP.out.keep KS.out (fun b _ h1 h2 => by omega))
  clear BS BR1 BR2 HP
  have BS := BS'
  clear BS'
  have BR1 := BR1'
  clear BR1'
  have BR2 := BR2'
  clear BR2'
  have HP := HP'
  clear HP'
  have HK' : Hd (Keeps (fun _ => False) w W3) := hid (HK.out.trans' KS.out (fun i hi h => by omega))
  clear HK
  have HK := HK'
  clear HK'
  have z_W3 : W2.heap.size + 0 ≤ W3.heap.size := by rw [← hW]; simp
  clear hW KS
  obtain ⟨gx, ox, ea2, hkb, hbx, hcx⟩ := bds_cells HP.out.bds (by rw [HN.out]; omega)
  obtain ⟨ad, cd, hcell, hsx⟩ := hcx q x HQ.out
  subst ea2
  have hkb2 : gx ≠ w.heap.size := by rcases hkb with h | h <;> omega
  have HSX := hid (hsx.mono (K' := fun _ => True) (fun _ _ _ => trivial))
  clear hcx hsx
  have HCB : Hd (∀ X, Keeps (fun _ => False) W3 X → Calls Tryd.prog 66 #[.slice ad x.length cd] X fun e w' => Wi.NewRet X 5 (u8s x) e w') := hid (fun X hx => Wi.CloneB_any _ _ x X (HSX.out.keep hx (fun _ _ _ h => h)) (by omega))
  have HCG : Hd (∀ X (a : Option Addr) (c : Nat), Sl (fun _ => True) X (.slice a x.length c) (u8s x) → Calls Tryd.prog 75 #[.agg #[.slice (some ⟨gx, ox, none⟩) n c2, .int .i64 ac, .int .u64 (k : Int), .int .i64 i], .agg #[.int .i64 (q : Int), .int .i64 0, .bool false, .slice a x.length c, .int .u64 0]] X fun e w' => e = .returned (.tuple #[.agg #[.int .i64 (q : Int), .int .i64 i, .bool false, .slice a x.length c, .int .u64 (t : Int)], .agg #[.slice (some ⟨gx, ox, none⟩) n c2, .int .i64 ac, .int .u64 (s : Int), .int .i64 (i + 1)]]) ∧ Keeps (fun _ => False) X w') := hid (fun X a c hsl => by have h := sign_any ⟨k, i⟩ ⟨q, 0, false, x, 0⟩ ac (some ⟨gx, ox, none⟩) n c2 (fun _ => True) a c X HLO.out HFO.out hsl; rw [HFT.out] at h; simp only [HS.out] at h; exact h)
  have HCELL := hid hcell
  clear hcell
  have HCX : Hd (∀ X, Keeps (fun b => b = w.heap.size) W3 X → X.cell? ⟨gx, ox + q, none⟩ = some (.slice ad x.length cd)) := hid (fun X hx => keep_cell hx (by omega) HCELL.out)
  have ltBS : w.heap.size < W3.heap.size := blk_lt BS.out
  rw [ldE_eq]
  go_cut [7] from 35 to 46 (fun u7 wx => ∃ (a4 : Option Addr), ∃ (c4 : Nat), ∃ bx, u7 = .pointer (some ⟨bx, 0, none⟩) ∧ W3.heap.size ≤ bx ∧ Hd (Blk wx bx #[(.int .i64 (q : Int)), (.int .i64 i), (.bool false), (.slice a4 x.length c4), (.int .u64 (t : Int))] 25) ∧ Hd (Blk wx w.heap.size #[(.slice (some ⟨gx, ox, none⟩) n c2), (.int .i64 ac), (.int .u64 (s : Int)), (.int .i64 (i + 1))] 57) ∧ Hd (Sl (fun b => W3.heap.size ≤ b) wx (.slice a4 x.length c4) (u8s x)) ∧ Hd (Keeps (fun b => b = w.heap.size) W3 wx))
  case first =>
    have KC : Hd (Keeps (fun _ => False) W3 W3) := hid (Keeps.refl _ _)
    have HSS : Hd (∀ w', Keeps (fun _ => False) W3 w' → (w'.cell? ⟨w.heap.size, 0, none⟩ = some (.slice (some ⟨gx, ox, none⟩) n c2) ∧ w'.cell? ⟨gx, ox + q, none⟩ = some (.slice ad x.length cd))) := hid (fun w' hk => ⟨blk_cell (blk_keep BS.out hk (fun h => h)) 0, keep_cell hk (fun h => h) HCELL.out⟩)
    have sF_BS_0 : W3.cell? ⟨w.heap.size, 0, none⟩ = some ((.slice (some ⟨gx, ox, none⟩) n c2)) := blk_cell (blk_keep BS.out KC.out (fun h => h)) 0
    have sG_BS_0 : W3.frozen? ⟨w.heap.size, 0, none⟩ = false := blk_free (blk_keep BS.out KC.out (fun h => h)) 0
    have sF_BS_1 : W3.cell? ⟨w.heap.size, 1, none⟩ = some ((.int .i64 ac)) := blk_cell (blk_keep BS.out KC.out (fun h => h)) 1
    have sG_BS_1 : W3.frozen? ⟨w.heap.size, 1, none⟩ = false := blk_free (blk_keep BS.out KC.out (fun h => h)) 1
    have sF_BS_2 : W3.cell? ⟨w.heap.size, 2, none⟩ = some ((.int .u64 (k : Int))) := blk_cell (blk_keep BS.out KC.out (fun h => h)) 2
    have sG_BS_2 : W3.frozen? ⟨w.heap.size, 2, none⟩ = false := blk_free (blk_keep BS.out KC.out (fun h => h)) 2
    have sF_BS_3 : W3.cell? ⟨w.heap.size, 3, none⟩ = some ((.int .i64 i)) := blk_cell (blk_keep BS.out KC.out (fun h => h)) 3
    have sG_BS_3 : W3.frozen? ⟨w.heap.size, 3, none⟩ = false := blk_free (blk_keep BS.out KC.out (fun h => h)) 3
    have sA_BS : w.heap.size < W3.heap.size := blk_lt (blk_keep BS.out KC.out (fun h => h))
    have sB_BS : ¬ (w.heap.size = W3.heap.size) := Nat.ne_of_lt sA_BS
    have sC_BS : ¬ (W3.heap.size = w.heap.size) := Nat.ne_of_gt sA_BS
    have LB_BS : ∀ X, Blk X w.heap.size #[(.slice (some ⟨gx, ox, none⟩) n c2), (.int .i64 ac), (.int .u64 (k : Int)), (.int .i64 i)] 57 → Blk ((((X.setCell ⟨w.heap.size, 0, none⟩ (.slice (some ⟨gx, ox, none⟩) n c2)).setCell ⟨w.heap.size, 1, none⟩ (.int .i64 ac)).setCell ⟨w.heap.size, 2, none⟩ (.int .u64 (s : Int))).setCell ⟨w.heap.size, 3, none⟩ (.int .i64 (i + 1))) w.heap.size #[(.slice (some ⟨gx, ox, none⟩) n c2), (.int .i64 ac), (.int .u64 (s : Int)), (.int .i64 (i + 1))] 57 := fun X h => (blk_set (blk_set (blk_set (blk_set h 0 _) 1 _) 2 _) 3 _)
    go_region_held (fun w' => w'.cell? ⟨w.heap.size, 0, none⟩ = some (.slice (some ⟨gx, ox, none⟩) n c2) ∧ w'.cell? ⟨gx, ox + q, none⟩ = some (.slice ad x.length cd)) (first | (refine HSS.out _ ?_; (repeat (first | (with_reducible exact KC.out) | (with_reducible exact Keeps.refl _ _) | (with_reducible apply Keeps.drewN) | (with_reducible apply Keeps.drew) | (with_reducible apply Keeps.alloc) | (refine Keeps.setCell (S := fun _ => False) ?_ (.inr (by first | exact Nat.le_refl _ | omega | (simp <;> fail) | (simp; omega) | fail)) _))); done) | (exact ⟨blk_cell (show Blk _ w.heap.size #[(.slice (some ⟨gx, ox, none⟩) n c2), (.int .i64 ac), (.int .u64 (s : Int)), (.int .i64 (i + 1))] 57 from (by repeat (first | (with_reducible refine LB_BS _ ?_) | (with_reducible refine blk_other ?_ (by first | omega | (simp only [World.size_alloc, World.size_drew]; omega) | fail) _ _) | (with_reducible apply blk_drewN) | (with_reducible apply blk_drew) | (with_reducible refine blk_alloc ?_ _) | (with_reducible exact blk_keep BS.out KC.out (fun h => h))))) 0, HCX.out _ (by repeat (first | (with_reducible refine Keeps.setCell (S := fun b => b = w.heap.size) ?_ (.inl (by first | (with_reducible rfl) | (simp <;> fail) | fail)) _) | (with_reducible apply Keeps.drewN) | (with_reducible apply Keeps.drew) | (with_reducible apply Keeps.alloc) | (refine Keeps.setCell (S := fun b => b = w.heap.size) ?_ (.inr (by first | exact Nat.le_refl _ | omega | (simp; omega) | fail)) _) | (with_reducible exact KC.out) | (with_reducible exact Keeps.refl _ _) | (with_reducible exact KC.out.mono (fun _ _ h => h.elim))))⟩))
      (first
      | (go_at_call 66; (refine (HCB.out _ (by repeat (first | (with_reducible exact KC.out) | (with_reducible exact Keeps.refl _ _) | (with_reducible apply Keeps.drewN) | (with_reducible apply Keeps.drew) | (with_reducible apply Keeps.alloc)))).mono ?_); rintro e wy0 ⟨a4, n4, c4, rfl, hn4, ho4, hk⟩; (try (replace LNB := hid (Keeps.trans (S := fun _ => False) (by repeat (first | (with_reducible exact LNB.out) | (with_reducible exact Keeps.refl _ _) | (with_reducible apply Keeps.drewN) | (with_reducible apply Keeps.drew) | (with_reducible apply Keeps.alloc))) hk))); (first | (have HNBX := HNB; clear HNBX) | (have HNB : Hd (∀ Vz, Keeps (fun _ => False) wy0 Vz → Blk Vz W3.heap.size #[(.int .i64 0), (.int .i64 0), (.bool false), (.slice none 0 0), (.int .u64 0)] 25) := hid (fun Vz hv => blk_keep (blk_keep (by (repeat (first | (with_reducible apply blk_drewN) | (with_reducible apply blk_drew) | (with_reducible refine blk_new' _ _ _ _ ?_) | (with_reducible apply blk_alloc))); (first | (with_reducible rfl) | (simp only [World.size_alloc, World.size_drew] <;> fail) | (simp <;> fail))) hk (fun h => h)) hv (fun h => h)); have LNB : Hd (Keeps (fun _ => False) wy0 wy0) := hid (Keeps.refl _ _); have hnbx : W3.heap.size ≤ W3.heap.size := by first | exact Nat.le_refl _ | omega) | skip); (try (have nF0 := blk_cell (HNB.out _ LNB.out) 0; have nG0 := blk_free (HNB.out _ LNB.out) 0; have nF1 := blk_cell (HNB.out _ LNB.out) 1; have nG1 := blk_free (HNB.out _ LNB.out) 1; have nF2 := blk_cell (HNB.out _ LNB.out) 2; have nG2 := blk_free (HNB.out _ LNB.out) 2; have nF3 := blk_cell (HNB.out _ LNB.out) 3; have nG3 := blk_free (HNB.out _ LNB.out) 3; have nF4 := blk_cell (HNB.out _ LNB.out) 4; have nG4 := blk_free (HNB.out _ LNB.out) 4)); have KC2 : Hd (Keeps (fun _ => False) W3 wy0) := hid (Keeps.trans (S := fun _ => False) (by repeat (first | (with_reducible exact KC.out) | (with_reducible exact Keeps.refl _ _) | (with_reducible apply Keeps.drewN) | (with_reducible apply Keeps.drew) | (with_reducible apply Keeps.alloc))) hk); have zc := KC.out.size; have zk := hk.size; (try simp at zk); obtain rfl : n4 = x.length := (by rw [hn4, u8s_length]); have HS4 := hid (sl_new (row_sl ho4.row (by rw [u8s_length])) W3.heap.size (by first | exact Nat.le_refl _ | (simp <;> fail) | (simp; omega) | fail)); clear hn4 ho4; replace KC := KC2; clear KC2; have sF_BS_0 : wy0.cell? ⟨w.heap.size, 0, none⟩ = some ((.slice (some ⟨gx, ox, none⟩) n c2)) := blk_cell (blk_keep BS.out KC.out (fun h => h)) 0; have sG_BS_0 : wy0.frozen? ⟨w.heap.size, 0, none⟩ = false := blk_free (blk_keep BS.out KC.out (fun h => h)) 0; have sF_BS_1 : wy0.cell? ⟨w.heap.size, 1, none⟩ = some ((.int .i64 ac)) := blk_cell (blk_keep BS.out KC.out (fun h => h)) 1; have sG_BS_1 : wy0.frozen? ⟨w.heap.size, 1, none⟩ = false := blk_free (blk_keep BS.out KC.out (fun h => h)) 1; have sF_BS_2 : wy0.cell? ⟨w.heap.size, 2, none⟩ = some ((.int .u64 (k : Int))) := blk_cell (blk_keep BS.out KC.out (fun h => h)) 2; have sG_BS_2 : wy0.frozen? ⟨w.heap.size, 2, none⟩ = false := blk_free (blk_keep BS.out KC.out (fun h => h)) 2; have sF_BS_3 : wy0.cell? ⟨w.heap.size, 3, none⟩ = some ((.int .i64 i)) := blk_cell (blk_keep BS.out KC.out (fun h => h)) 3; have sG_BS_3 : wy0.frozen? ⟨w.heap.size, 3, none⟩ = false := blk_free (blk_keep BS.out KC.out (fun h => h)) 3; have sA_BS : w.heap.size < wy0.heap.size := blk_lt (blk_keep BS.out KC.out (fun h => h)); have sB_BS : ¬ (w.heap.size = wy0.heap.size) := Nat.ne_of_lt sA_BS; have sC_BS : ¬ (wy0.heap.size = w.heap.size) := Nat.ne_of_gt sA_BS; replace hk := hid hk)
      | (go_at_call 75; (refine (HCG.out _ _ _ ((HS4.out.2 _ (Keeps.mono (S := fun _ => False) (by repeat (first | (with_reducible exact Keeps.refl _ _) | (with_reducible apply Keeps.drewN) | (with_reducible apply Keeps.drew) | (with_reducible apply Keeps.alloc))) (fun _ _ h => h.elim))).mono (fun _ _ _ => trivial))).mono ?_); rintro e wy1 ⟨rfl, hk⟩; (try (replace LNB := hid (Keeps.trans (S := fun _ => False) (by repeat (first | (with_reducible exact LNB.out) | (with_reducible exact Keeps.refl _ _) | (with_reducible apply Keeps.drewN) | (with_reducible apply Keeps.drew) | (with_reducible apply Keeps.alloc))) hk))); (first | (have HNBX := HNB; clear HNBX) | (have HNB : Hd (∀ Vz, Keeps (fun _ => False) wy1 Vz → Blk Vz W3.heap.size #[(.int .i64 0), (.int .i64 0), (.bool false), (.slice none 0 0), (.int .u64 0)] 25) := hid (fun Vz hv => blk_keep (blk_keep (by (repeat (first | (with_reducible apply blk_drewN) | (with_reducible apply blk_drew) | (with_reducible refine blk_new' _ _ _ _ ?_) | (with_reducible apply blk_alloc))); (first | (with_reducible rfl) | (simp only [World.size_alloc, World.size_drew] <;> fail) | (simp <;> fail))) hk (fun h => h)) hv (fun h => h)); have LNB : Hd (Keeps (fun _ => False) wy1 wy1) := hid (Keeps.refl _ _); have hnbx : W3.heap.size ≤ W3.heap.size := by first | exact Nat.le_refl _ | omega) | (have HNB : Hd (∀ Vz, Keeps (fun _ => False) wy1 Vz → Blk Vz wy0.heap.size #[(.int .i64 0), (.int .i64 0), (.bool false), (.slice none 0 0), (.int .u64 0)] 25) := hid (fun Vz hv => blk_keep (blk_keep (by (repeat (first | (with_reducible apply blk_drewN) | (with_reducible apply blk_drew) | (with_reducible refine blk_new' _ _ _ _ ?_) | (with_reducible apply blk_alloc))); (first | (with_reducible rfl) | (simp only [World.size_alloc, World.size_drew] <;> fail) | (simp <;> fail))) hk (fun h => h)) hv (fun h => h)); have LNB : Hd (Keeps (fun _ => False) wy1 wy1) := hid (Keeps.refl _ _); have hnbx : W3.heap.size ≤ wy0.heap.size := by first | exact Nat.le_refl _ | omega) | skip); (try (have nF0 := blk_cell (HNB.out _ LNB.out) 0; have nG0 := blk_free (HNB.out _ LNB.out) 0; have nF1 := blk_cell (HNB.out _ LNB.out) 1; have nG1 := blk_free (HNB.out _ LNB.out) 1; have nF2 := blk_cell (HNB.out _ LNB.out) 2; have nG2 := blk_free (HNB.out _ LNB.out) 2; have nF3 := blk_cell (HNB.out _ LNB.out) 3; have nG3 := blk_free (HNB.out _ LNB.out) 3; have nF4 := blk_cell (HNB.out _ LNB.out) 4; have nG4 := blk_free (HNB.out _ LNB.out) 4)); have KC2 : Hd (Keeps (fun _ => False) W3 wy1) := hid (Keeps.trans (S := fun _ => False) (by repeat (first | (with_reducible exact KC.out) | (with_reducible exact Keeps.refl _ _) | (with_reducible apply Keeps.drewN) | (with_reducible apply Keeps.drew) | (with_reducible apply Keeps.alloc))) hk); have zc := KC.out.size; have zk := hk.size; (try simp at zk); have K01 : Hd (Keeps (fun _ => False) wy0 wy1) := hid (Keeps.trans (S := fun _ => False) (by repeat (first | (with_reducible exact Keeps.refl _ _) | (with_reducible apply Keeps.drewN) | (with_reducible apply Keeps.drew) | (with_reducible apply Keeps.alloc))) hk); replace KC := KC2; clear KC2; have sF_BS_0 : wy1.cell? ⟨w.heap.size, 0, none⟩ = some ((.slice (some ⟨gx, ox, none⟩) n c2)) := blk_cell (blk_keep BS.out KC.out (fun h => h)) 0; have sG_BS_0 : wy1.frozen? ⟨w.heap.size, 0, none⟩ = false := blk_free (blk_keep BS.out KC.out (fun h => h)) 0; have sF_BS_1 : wy1.cell? ⟨w.heap.size, 1, none⟩ = some ((.int .i64 ac)) := blk_cell (blk_keep BS.out KC.out (fun h => h)) 1; have sG_BS_1 : wy1.frozen? ⟨w.heap.size, 1, none⟩ = false := blk_free (blk_keep BS.out KC.out (fun h => h)) 1; have sF_BS_2 : wy1.cell? ⟨w.heap.size, 2, none⟩ = some ((.int .u64 (k : Int))) := blk_cell (blk_keep BS.out KC.out (fun h => h)) 2; have sG_BS_2 : wy1.frozen? ⟨w.heap.size, 2, none⟩ = false := blk_free (blk_keep BS.out KC.out (fun h => h)) 2; have sF_BS_3 : wy1.cell? ⟨w.heap.size, 3, none⟩ = some ((.int .i64 i)) := blk_cell (blk_keep BS.out KC.out (fun h => h)) 3; have sG_BS_3 : wy1.frozen? ⟨w.heap.size, 3, none⟩ = false := blk_free (blk_keep BS.out KC.out (fun h => h)) 3; have sA_BS : w.heap.size < wy1.heap.size := blk_lt (blk_keep BS.out KC.out (fun h => h)); have sB_BS : ¬ (w.heap.size = wy1.heap.size) := Nat.ne_of_lt sA_BS; have sC_BS : ¬ (wy1.heap.size = w.heap.size) := Nat.ne_of_gt sA_BS; replace hk := hid hk))
    all_goals
      go_wp2_with fail
      go_meet
      suffices e : EmFin W3 wy1 _ w.heap.size _ #[(.int .i64 (q : Int)), (.int .i64 i), (.bool false), (.slice a4 x.length c4), (.int .u64 (t : Int))] 25 #[(.slice (some ⟨gx, ox, none⟩) n c2), (.int .i64 ac), (.int .u64 (s : Int)), (.int .i64 (i + 1))] 57 from ⟨a4, c4, _, rfl, (by first | exact Nat.le_refl _ | exact hnbx | omega | fail), hid e.f, hid e.s, hid ((HS4.out.2 _ ((K01.out.mono (fun _ _ h => h.elim)).trans (e.k1.mono (fun i hi h => by rcases h with h | h | h; exact .inl (by have := HS4.out.1; omega); exact (by first | exact .inr (by omega) | exact .inl (by subst h; first | (simp <;> fail) | (simp; omega) | omega) | fail); exact .inr (by omega))))).mono (fun b _ h => Nat.le_trans HS4.out.1 h.1)), hid e.k⟩
      have hBS := blk_keep BS.out KC.out (fun h => h)
      first | (with_reducible exact emC KC.out hBS ltBS) | (with_reducible exact emD KC.out hBS ltBS) | (with_reducible exact emE KC.out hBS ltBS) | (with_reducible exact emA KC.out hBS (HNB.out _ LNB.out) (by first | exact sC_BS | omega | fail) hnbx) | (with_reducible exact emB KC.out hBS (HNB.out _ LNB.out) (by first | exact sC_BS | omega | fail) hnbx)
  case rest =>
    obtain ⟨a4, c4, b_F, rfl, hb_F, B_F, N_BS, M_0, hk⟩ := hcut
    replace hk := hk.out
    generalize wc = W4 at *
    have BR1' : Hd (Blk W4 b_BR1 #[(.int .i64 0), (.int .i64 0), (.bool false), (.slice none 0 0), (.int .u64 0)] 25) := hid (blk_keep BR1.out hk (fun h => by omega))
    have BR2' : Hd (Blk W4 b_BR2 #[(.slice none 0 0), (.int .i64 0), (.int .u64 0), (.int .i64 0)] 57) := hid (blk_keep BR2.out hk (fun h => by omega))
    have HP' : Hd (BdP (fun b => W1.heap.size ≤ b) W1.heap.size W4 (.slice (some ⟨gx, ox, none⟩) n c2) bs) := hid (HP.out.keep hk (fun b _ h1 h2 => by omega))
    clear BR1 BR2 HP
    have BR1 := BR1'
    clear BR1'
    have BR2 := BR2'
    clear BR2'
    have HP := HP'
    clear HP'
    clear BS
    have BS := N_BS
    clear N_BS
    have HK' : Hd (Keeps (fun _ => False) w W4) := hid (HK.out.trans' hk (fun i hi h => by omega))
    clear HK
    have HK := HK'
    clear HK'
    have z_W4 := hk.size
    clear hk
    have lt_F := blk_lt B_F.out
    go_upto_region 9 with fail
    go_cut [6] from 47 to 48 (fun u6 wx => u6 = .int .i64 0 ∧ Hd (Blk wx b_BR1 #[(.int .i64 (q : Int)), (.int .i64 i), (.bool false), (.slice a4 x.length c4), (.int .u64 (t : Int))] 25) ∧ Hd (Blk wx b_BR2 #[(.slice (some ⟨gx, ox, none⟩) n c2), (.int .i64 ac), (.int .u64 (s : Int)), (.int .i64 (i + 1))] 57) ∧ Hd (Keeps (fun b => b = b_BR1 ∨ b = b_BR2) W4 wx))
    case first =>
      have KC : Hd (Keeps (fun _ => False) W4 W4) := hid (Keeps.refl _ _)
      have HSS : Hd (∀ w', Keeps (fun b => b = b_BR1 ∨ b = b_BR2) W4 w' → (w'.cell? ⟨b_F, 0, none⟩ = some ((.int .i64 (q : Int))) ∧ w'.cell? ⟨b_F, 1, none⟩ = some ((.int .i64 i)) ∧ w'.cell? ⟨b_F, 2, none⟩ = some ((.bool false)) ∧ w'.cell? ⟨b_F, 3, none⟩ = some ((.slice a4 x.length c4)) ∧ w'.cell? ⟨b_F, 4, none⟩ = some ((.int .u64 (t : Int))) ∧ w'.cell? ⟨w.heap.size, 0, none⟩ = some ((.slice (some ⟨gx, ox, none⟩) n c2)) ∧ w'.cell? ⟨w.heap.size, 1, none⟩ = some ((.int .i64 ac)) ∧ w'.cell? ⟨w.heap.size, 2, none⟩ = some ((.int .u64 (s : Int))) ∧ w'.cell? ⟨w.heap.size, 3, none⟩ = some ((.int .i64 (i + 1))))) := hid (fun w' hk => ⟨blk_cell (blk_keep B_F.out hk (fun h => by omega)) 0, blk_cell (blk_keep B_F.out hk (fun h => by omega)) 1, blk_cell (blk_keep B_F.out hk (fun h => by omega)) 2, blk_cell (blk_keep B_F.out hk (fun h => by omega)) 3, blk_cell (blk_keep B_F.out hk (fun h => by omega)) 4, blk_cell (blk_keep BS.out hk (fun h => by omega)) 0, blk_cell (blk_keep BS.out hk (fun h => by omega)) 1, blk_cell (blk_keep BS.out hk (fun h => by omega)) 2, blk_cell (blk_keep BS.out hk (fun h => by omega)) 3⟩)
      have sF_BR1_0 : W4.cell? ⟨b_BR1, 0, none⟩ = some ((.int .i64 0)) := blk_cell (blk_keep BR1.out KC.out (fun h => h)) 0
      have sG_BR1_0 : W4.frozen? ⟨b_BR1, 0, none⟩ = false := blk_free (blk_keep BR1.out KC.out (fun h => h)) 0
      have sF_BR1_1 : W4.cell? ⟨b_BR1, 1, none⟩ = some ((.int .i64 0)) := blk_cell (blk_keep BR1.out KC.out (fun h => h)) 1
      have sG_BR1_1 : W4.frozen? ⟨b_BR1, 1, none⟩ = false := blk_free (blk_keep BR1.out KC.out (fun h => h)) 1
      have sF_BR1_2 : W4.cell? ⟨b_BR1, 2, none⟩ = some ((.bool false)) := blk_cell (blk_keep BR1.out KC.out (fun h => h)) 2
      have sG_BR1_2 : W4.frozen? ⟨b_BR1, 2, none⟩ = false := blk_free (blk_keep BR1.out KC.out (fun h => h)) 2
      have sF_BR1_3 : W4.cell? ⟨b_BR1, 3, none⟩ = some ((.slice none 0 0)) := blk_cell (blk_keep BR1.out KC.out (fun h => h)) 3
      have sG_BR1_3 : W4.frozen? ⟨b_BR1, 3, none⟩ = false := blk_free (blk_keep BR1.out KC.out (fun h => h)) 3
      have sF_BR1_4 : W4.cell? ⟨b_BR1, 4, none⟩ = some ((.int .u64 0)) := blk_cell (blk_keep BR1.out KC.out (fun h => h)) 4
      have sG_BR1_4 : W4.frozen? ⟨b_BR1, 4, none⟩ = false := blk_free (blk_keep BR1.out KC.out (fun h => h)) 4
      have sF_BR2_0 : W4.cell? ⟨b_BR2, 0, none⟩ = some ((.slice none 0 0)) := blk_cell (blk_keep BR2.out KC.out (fun h => h)) 0
      have sG_BR2_0 : W4.frozen? ⟨b_BR2, 0, none⟩ = false := blk_free (blk_keep BR2.out KC.out (fun h => h)) 0
      have sF_BR2_1 : W4.cell? ⟨b_BR2, 1, none⟩ = some ((.int .i64 0)) := blk_cell (blk_keep BR2.out KC.out (fun h => h)) 1
      have sG_BR2_1 : W4.frozen? ⟨b_BR2, 1, none⟩ = false := blk_free (blk_keep BR2.out KC.out (fun h => h)) 1
      have sF_BR2_2 : W4.cell? ⟨b_BR2, 2, none⟩ = some ((.int .u64 0)) := blk_cell (blk_keep BR2.out KC.out (fun h => h)) 2
      have sG_BR2_2 : W4.frozen? ⟨b_BR2, 2, none⟩ = false := blk_free (blk_keep BR2.out KC.out (fun h => h)) 2
      have sF_BR2_3 : W4.cell? ⟨b_BR2, 3, none⟩ = some ((.int .i64 0)) := blk_cell (blk_keep BR2.out KC.out (fun h => h)) 3
      have sG_BR2_3 : W4.frozen? ⟨b_BR2, 3, none⟩ = false := blk_free (blk_keep BR2.out KC.out (fun h => h)) 3
      have sL_B_F_0 : W4.cell? ⟨b_F, 0, none⟩ = some ((.int .i64 (q : Int))) := blk_cell (blk_keep B_F.out KC.out (fun h => h)) 0
      have sL_B_F_1 : W4.cell? ⟨b_F, 1, none⟩ = some ((.int .i64 i)) := blk_cell (blk_keep B_F.out KC.out (fun h => h)) 1
      have sL_B_F_2 : W4.cell? ⟨b_F, 2, none⟩ = some ((.bool false)) := blk_cell (blk_keep B_F.out KC.out (fun h => h)) 2
      have sL_B_F_3 : W4.cell? ⟨b_F, 3, none⟩ = some ((.slice a4 x.length c4)) := blk_cell (blk_keep B_F.out KC.out (fun h => h)) 3
      have sL_B_F_4 : W4.cell? ⟨b_F, 4, none⟩ = some ((.int .u64 (t : Int))) := blk_cell (blk_keep B_F.out KC.out (fun h => h)) 4
      have sL_BS_0 : W4.cell? ⟨w.heap.size, 0, none⟩ = some ((.slice (some ⟨gx, ox, none⟩) n c2)) := blk_cell (blk_keep BS.out KC.out (fun h => h)) 0
      have sL_BS_1 : W4.cell? ⟨w.heap.size, 1, none⟩ = some ((.int .i64 ac)) := blk_cell (blk_keep BS.out KC.out (fun h => h)) 1
      have sL_BS_2 : W4.cell? ⟨w.heap.size, 2, none⟩ = some ((.int .u64 (s : Int))) := blk_cell (blk_keep BS.out KC.out (fun h => h)) 2
      have sL_BS_3 : W4.cell? ⟨w.heap.size, 3, none⟩ = some ((.int .i64 (i + 1))) := blk_cell (blk_keep BS.out KC.out (fun h => h)) 3
      have LB_BR1 : ∀ X, Blk X b_BR1 #[(.int .i64 0), (.int .i64 0), (.bool false), (.slice none 0 0), (.int .u64 0)] 25 → Blk (((((X.setCell ⟨b_BR1, 0, none⟩ (.int .i64 (q : Int))).setCell ⟨b_BR1, 1, none⟩ (.int .i64 i)).setCell ⟨b_BR1, 2, none⟩ (.bool false)).setCell ⟨b_BR1, 3, none⟩ (.slice a4 x.length c4)).setCell ⟨b_BR1, 4, none⟩ (.int .u64 (t : Int))) b_BR1 #[(.int .i64 (q : Int)), (.int .i64 i), (.bool false), (.slice a4 x.length c4), (.int .u64 (t : Int))] 25 := fun X h => (blk_set (blk_set (blk_set (blk_set (blk_set h 0 _) 1 _) 2 _) 3 _) 4 _)
      have LO_BR2_BR1 : ∀ X cs T, Blk X b_BR1 cs T → Blk ((((X.setCell ⟨b_BR2, 0, none⟩ (.slice (some ⟨gx, ox, none⟩) n c2)).setCell ⟨b_BR2, 1, none⟩ (.int .i64 ac)).setCell ⟨b_BR2, 2, none⟩ (.int .u64 (s : Int))).setCell ⟨b_BR2, 3, none⟩ (.int .i64 (i + 1))) b_BR1 cs T := fun X cs T h => (blk_other (blk_other (blk_other (blk_other h (by omega) _ _) (by omega) _ _) (by omega) _ _) (by omega) _ _)
      have LB_BR2 : ∀ X, Blk X b_BR2 #[(.slice none 0 0), (.int .i64 0), (.int .u64 0), (.int .i64 0)] 57 → Blk ((((X.setCell ⟨b_BR2, 0, none⟩ (.slice (some ⟨gx, ox, none⟩) n c2)).setCell ⟨b_BR2, 1, none⟩ (.int .i64 ac)).setCell ⟨b_BR2, 2, none⟩ (.int .u64 (s : Int))).setCell ⟨b_BR2, 3, none⟩ (.int .i64 (i + 1))) b_BR2 #[(.slice (some ⟨gx, ox, none⟩) n c2), (.int .i64 ac), (.int .u64 (s : Int)), (.int .i64 (i + 1))] 57 := fun X h => (blk_set (blk_set (blk_set (blk_set h 0 _) 1 _) 2 _) 3 _)
      have LO_BR1_BR2 : ∀ X cs T, Blk X b_BR2 cs T → Blk (((((X.setCell ⟨b_BR1, 0, none⟩ (.int .i64 (q : Int))).setCell ⟨b_BR1, 1, none⟩ (.int .i64 i)).setCell ⟨b_BR1, 2, none⟩ (.bool false)).setCell ⟨b_BR1, 3, none⟩ (.slice a4 x.length c4)).setCell ⟨b_BR1, 4, none⟩ (.int .u64 (t : Int))) b_BR2 cs T := fun X cs T h => (blk_other (blk_other (blk_other (blk_other (blk_other h (by omega) _ _) (by omega) _ _) (by omega) _ _) (by omega) _ _) (by omega) _ _)
      go_region
      all_goals
        go_wp2_with fail
        go_meet
        exact ⟨rfl, hid (by repeat (first | (with_reducible refine LB_BR1 _ ?_) | (with_reducible refine blk_other ?_ (by first | omega | (simp only [World.size_alloc, World.size_drew]; omega) | fail) _ _) | (with_reducible apply blk_drewN) | (with_reducible apply blk_drew) | (with_reducible refine blk_alloc ?_ _) | (with_reducible exact blk_keep BR1.out KC.out (fun h => h)))), hid (by repeat (first | (with_reducible refine LB_BR2 _ ?_) | (with_reducible refine blk_other ?_ (by first | omega | (simp only [World.size_alloc, World.size_drew]; omega) | fail) _ _) | (with_reducible apply blk_drewN) | (with_reducible apply blk_drew) | (with_reducible refine blk_alloc ?_ _) | (with_reducible exact blk_keep BR2.out KC.out (fun h => h)))), hid (by repeat (first | (with_reducible refine Keeps.setCell (S := fun b => b = b_BR1 ∨ b = b_BR2) ?_ (.inl (by first | (with_reducible rfl) | (simp <;> fail) | fail)) _) | (with_reducible apply Keeps.drewN) | (with_reducible apply Keeps.drew) | (with_reducible exact KC.out) | (with_reducible exact Keeps.refl _ _) | (with_reducible exact KC.out.mono (fun _ _ h => h.elim))))⟩
    case rest =>
      obtain ⟨rfl, N_BR1, N_BR2, hk⟩ := hcut
      replace hk := hk.out
      generalize wc = W5 at *
      have BS' : Hd (Blk W5 w.heap.size #[(.slice (some ⟨gx, ox, none⟩) n c2), (.int .i64 ac), (.int .u64 (s : Int)), (.int .i64 (i + 1))] 57) := hid (blk_keep BS.out hk (fun h => by omega))
      have HP' : Hd (BdP (fun b => W1.heap.size ≤ b) W1.heap.size W5 (.slice (some ⟨gx, ox, none⟩) n c2) bs) := hid (HP.out.keep hk (fun b _ h1 h2 => by omega))
      have B_F' : Hd (Blk W5 b_F #[(.int .i64 (q : Int)), (.int .i64 i), (.bool false), (.slice a4 x.length c4), (.int .u64 (t : Int))] 25) := hid (blk_keep B_F.out hk (fun h => by omega))
      have M_0' : Hd (Sl (fun b => W3.heap.size ≤ b) W5 (.slice a4 x.length c4) (u8s x)) := hid (M_0.out.keep hk (fun b h1 h2 h3 => by omega))
      clear BS HP B_F M_0
      have BS := BS'
      clear BS'
      have HP := HP'
      clear HP'
      have B_F := B_F'
      clear B_F'
      have M_0 := M_0'
      clear M_0'
      clear BR1
      have BR1 := N_BR1
      clear N_BR1
      clear BR2
      have BR2 := N_BR2
      clear N_BR2
      have HK' : Hd (Keeps (fun _ => False) w W5) := hid (HK.out.trans' hk (fun i hi h => by omega))
      clear HK
      have HK := HK'
      clear HK'
      have z_W5 := hk.size
      clear hk
      go_wp2
      have rr_BR1_0 := blk_cell BR1.out 0
      have rr_BR1_1 := blk_cell BR1.out 1
      have rr_BR1_2 := blk_cell BR1.out 2
      have rr_BR1_3 := blk_cell BR1.out 3
      have rr_BR1_4 := blk_cell BR1.out 4
      have rr_BR2_0 := blk_cell BR2.out 0
      have rr_BR2_1 := blk_cell BR2.out 1
      have rr_BR2_2 := blk_cell BR2.out 2
      have rr_BR2_3 := blk_cell BR2.out 3
      refine bodyPost_ret (v := .tuple #[.agg #[(.int .i64 (q : Int)), (.int .i64 i), (.bool false), (.slice a4 x.length c4), (.int .u64 (t : Int))], .agg #[(.slice (some ⟨gx, ox, none⟩) n c2), (.int .i64 ac), (.int .u64 (s : Int)), (.int .i64 (i + 1))], .int .i64 0]) (by simp [results, Tryd.results39, go_sem, rr_BR1_0, rr_BR1_1, rr_BR1_2, rr_BR1_3, rr_BR1_4, rr_BR2_0, rr_BR2_1, rr_BR2_2, rr_BR2_3]) rfl ?_
      have hf := HF.out
      have hs := HS.out
      have ht := HT.out
      have hn := HN.out
      obtain ⟨Fq, Fk, Fu, Fb, Ft⟩ := F
      simp only [] at hf ht
      obtain ⟨rfl, rfl, rfl, rfl⟩ := hf
      subst ht hs
      subst hn
      refine ⟨a4, c4, some ⟨gx, ox, none⟩, c2, rfl, M_0.out.mono (fun b _ h => by omega), ?_, HK.out⟩
      exact HP.out.bds.mono (fun b _ h => by omega)
end Go.Proofs.YthoikljmokkchaaDoor
