/- Frames: FrJ, FrK, FrL, FrM, FrN, FrO: walks and plain facts. -/
import Derived.Test.YthoikljmokkchaaDoorFrMid
namespace Go.Proofs.YthoikljmokkchaaDoor
open Go.RowKit
end Go.Proofs.YthoikljmokkchaaDoor
namespace Go.Proofs.YthoikljmokkchaaDoor
open Go.RowKit
end Go.Proofs.YthoikljmokkchaaDoor
namespace Go.Proofs.YthoikljmokkchaaDoor
open Go.RowKit
def putI (h d : Int) : Int := bits BinOp.or .i64 h (wrap64 (2 ^ (d.toNat - 1)))
def havI (nx : Int) (l : List Fr) : Int := l.foldl (fun h x => putI h (x.q - nx)) 0
theorem havI_take {nx : Int} {l : List Fr} {k : Nat} {x : Fr} (h : l[k]? = some x) : havI nx (l.take (k + 1)) = putI (havI nx (l.take k)) (x.q - nx) := by
  unfold havI
  rw [List.take_add_one, h]
  simp [List.foldl_append]
set_option maxRecDepth 100000 in
set_option maxHeartbeats 4000000 in
theorem State_any (fs : List Fr) (fa : Option Addr) (fc : Nat) (nx : Int) (lk : Bool) (l : Ld) (K : Nat → Prop) (w : World) (hv : Frs K w (.slice fa fs.length fc) fs) (hn : fs.length ≤ 100000) (hnx : 0 ≤ nx) (hnx2 : nx ≤ 1000000000) (hq : ∀ x ∈ fs, nx < x.q ∧ x.q ≤ nx + 60) :
    Calls Tryd.prog 28 #[.agg #[.int .i64 nx, .slice fa fs.length fc, .bool lk, .int .u64 (l.k : Int), .int .i64 l.i]] w fun e w' => e = .returned (.agg #[.int .i64 nx, .int .i64 (havI nx fs), .int .i64 l.i, .bool lk]) ∧ Keeps (fun _ => False) w w' := by
  have HV := hid (hv.mono (K' := fun b => b < w.heap.size) (fun b h _ => h)); have HQ := hid hq
  clear hv hq
  obtain ⟨n, hnn⟩ : ∃ n, fs.length = n := ⟨_, rfl⟩
  have HN := hid hnn
  rw [hnn] at HV hn ⊢
  clear hnn
  obtain ⟨lk1, li⟩ := l
  simp only [] at *
  obtain ⟨HH, hhh⟩ : ∃ HH, havI nx fs = HH := ⟨_, rfl⟩
  have HHH := hid hhh
  rw [hhh]
  clear hhh
  go_enter Tryd.func28, Tryd.ntmps28
  go_upto_region 1 with fail
  generalize hW : World.alloc (World.alloc w _) _ = W1
  have KS : Hd (Keeps (fun _ => False) w W1) := hid (by rw [← hW]; exact (Keeps.alloc (Keeps.alloc (Keeps.refl (fun _ => False) w) _) _))
  have HV' : Hd (Frs (fun b => b < w.heap.size) W1 (.slice fa n fc) fs) := hid (HV.out.keep KS.out (fun _ _ _ h => h))
  have BR : Hd (Blk W1 w.heap.size #[(.int .i64 nx), (.slice fa n fc), (.bool lk), (.int .u64 (lk1 : Int)), (.int .i64 li)] 35) := hid (by rw [← hW]; exact (blk_alloc (blk_new _ _ _) _))
  have BT : Hd (Blk W1 (w.heap.size + 1) #[(.int .i64 0), (.int .i64 0), (.int .i64 0), (.bool false)] 50) := hid (by rw [← hW]; exact (blk_new' _ _ _ _ (by simp)))
  clear HV
  have HV := HV'
  clear HV'
  have HK : Hd (Keeps (fun _ => False) w W1) := hid KS.out
  have z_W1 : w.heap.size + 2 ≤ W1.heap.size := by rw [← hW]; simp
  clear hW KS
  generalize hb_BT : w.heap.size + 1 = b_BT at *
  have o_BR_0 : W1.cell? ⟨w.heap.size, 0, none⟩ = some ((.int .i64 nx)) := blk_cell BR.out 0
  have o_BR_2 : W1.cell? ⟨w.heap.size, 2, none⟩ = some ((.bool lk)) := blk_cell BR.out 2
  have o_BR_4 : W1.cell? ⟨w.heap.size, 4, none⟩ = some ((.int .i64 li)) := blk_cell BR.out 4
  go_upto_region 2 with fail
  clear o_BR_0 o_BR_2 o_BR_4
  generalize hW : World.alloc W1 _ = W2
  have KS : Hd (Keeps (fun _ => False) W1 W2) := hid (by rw [← hW]; exact (Keeps.alloc (Keeps.refl (fun _ => False) W1) _))
  have HV' : Hd (Frs (fun b => b < w.heap.size) W2 (.slice fa n fc) fs) := hid (HV.out.keep KS.out (fun _ _ _ h => h))
  have BR' : Hd (Blk W2 w.heap.size #[(.int .i64 nx), (.slice fa n fc), (.bool lk), (.int .u64 (lk1 : Int)), (.int .i64 li)] 35) := hid (by rw [← hW]; exact (blk_alloc BR.out _))
  have BT' : Hd (Blk W2 b_BT #[(.int .i64 0), (.int .i64 0), (.int .i64 0), (.bool false)] 50) := hid (by rw [← hW]; exact (blk_alloc BT.out _))
  have BS : Hd (Blk W2 W1.heap.size #[(.int .i64 nx), (.int .i64 0), (.int .i64 li), (.bool lk)] 50) := hid (by rw [← hW]; exact (blk_new _ _ _))
  clear HV BR BT
  have HV := HV'
  clear HV'
  have BR := BR'
  clear BR'
  have BT := BT'
  clear BT'
  have HK' : Hd (Keeps (fun _ => False) w W2) := hid (HK.out.trans KS.out)
  clear HK
  have HK := HK'
  clear HK'
  have z_W2 : W1.heap.size + 1 ≤ W2.heap.size := by rw [← hW]; simp
  clear hW KS
  have o_BR_1 : W2.cell? ⟨w.heap.size, 1, none⟩ = some ((.slice fa n fc)) := blk_cell BR.out 1
  go_wp2_with fail
  clear o_BR_1
  go_loopw [17] (fun iv wr => ∃ k : Nat, iv = .int .i64 (k : Int) ∧ k ≤ n ∧ Hd (Blk wr W1.heap.size #[.int .i64 nx, .int .i64 (havI nx (fs.take k)), .int .i64 li, .bool lk] 50) ∧ Hd (Keeps (fun b => b = W1.heap.size) W2 wr)) (fun iv _ => n - (intOf iv).toNat)
  case atStart => exact ⟨0, rfl, Nat.zero_le _, hid BS.out, hid (Keeps.refl _ _)⟩
  case round =>
    obtain ⟨V, rfl⟩ : ∃ V, V = wr := ⟨_, rfl⟩
    obtain ⟨k, rfl, hk, HB, HX2⟩ := hrel
    by_cases hlt : k < n
    · have q1 : (k : Int) < n := by omega
      have q2 : (0 : Int) ≤ k := by omega
      obtain ⟨bx, ox, rfl, hbx, -, hc⟩ := frs_cells HV.out (by rw [HN.out]; omega)
      have hkl : k < fs.length := by rw [HN.out]; exact hlt
      obtain ⟨x, hxk⟩ : ∃ x, fs[k]? = some x := ⟨fs[k], List.getElem?_eq_getElem hkl⟩
      obtain ⟨e0, e1, e2, e4, ad, cd, e3, hsx⟩ := hc k x hxk
      have hne : ¬ (bx = W1.heap.size) := by omega
      have i0 := keep_cell HX2.out hne e0
      have i1 := keep_cell HX2.out hne e1
      have i2 := keep_cell HX2.out hne e2
      have i3 := keep_cell HX2.out hne e3
      have i4 := keep_cell HX2.out hne e4
      have hxq := HQ.out x (List.mem_of_getElem? hxk)
      have hq1 := hxq.1
      have hq2 := hxq.2
      obtain ⟨hh, hhh⟩ : ∃ hh, havI nx (fs.take k) = hh := ⟨_, rfl⟩
      obtain ⟨h2, hh2⟩ : ∃ h2, havI nx (fs.take (k + 1)) = h2 := ⟨_, rfl⟩
      have hst : putI hh (x.q - nx) = h2 := by rw [← hhh, ← hh2]; exact (havI_take hxk).symm
      rw [hhh] at HB
      obtain ⟨xq, hxqq⟩ : ∃ q, x.q = q := ⟨_, rfl⟩
      obtain ⟨xk, hxkk⟩ : ∃ q, x.k = q := ⟨_, rfl⟩
      obtain ⟨xu, hxuu⟩ : ∃ q, x.u = q := ⟨_, rfl⟩
      obtain ⟨xt, hxtt⟩ : ∃ q, x.t = q := ⟨_, rfl⟩
      obtain ⟨xb, hxbb⟩ : ∃ q, x.b.length = q := ⟨_, rfl⟩
      rw [hxqq] at i0 hq1 hq2 hst
      rw [hxkk] at i1
      rw [hxuu] at i2
      rw [hxbb] at i3
      rw [hxtt] at i4
      have HST := hid hst
      have HH2 := hid hh2
      clear hst hh2 hhh hxq hsx hc e0 e1 e2 e3 e4 hxkk hxuu hxtt hxbb hxqq
      have BR2 := hid (blk_keep BR.out HX2.out (fun h => by omega))
      have zV := HX2.out.size
      have lB := blk_lt HB.out
      have lR := blk_lt BR2.out
      go_upto_region 5 with fail
      generalize hW : World.alloc V _ = W11
      have KS : Hd (Keeps (fun _ => False) V W11) := hid (by rw [← hW]; exact (Keeps.alloc (Keeps.refl (fun _ => False) V) _))
      have BR2' : Hd (Blk W11 w.heap.size #[(.int .i64 nx), (.slice (some ⟨bx, ox, none⟩) n fc), (.bool lk), (.int .u64 (lk1 : Int)), (.int .i64 li)] 35) := hid (by rw [← hW]; exact (blk_alloc BR2.out _))
      have HB' : Hd (Blk W11 W1.heap.size #[(.int .i64 nx), (.int .i64 hh), (.int .i64 li), (.bool lk)] 50) := hid (by rw [← hW]; exact (blk_alloc HB.out _))
      have BF : Hd (Blk W11 V.heap.size #[(.int .i64 xq), (.int .i64 xk), (.bool xu), (.slice ad xb cd), (.int .u64 (xt : Int))] 25) := hid (by rw [← hW]; exact (blk_new _ _ _))
      clear BR2 HB
      have BR2 := BR2'
      clear BR2'
      have HB := HB'
      clear HB'
      have HK : Hd (Keeps (fun _ => False) V W11) := hid KS.out
      have z_W11 : V.heap.size + 1 ≤ W11.heap.size := by rw [← hW]; simp
      clear hW KS
      clear i0 i1 i2 i3 i4
      have o_BR2_0 : W11.cell? ⟨w.heap.size, 0, none⟩ = some ((.int .i64 nx)) := blk_cell BR2.out 0
      have o_BF_0 : W11.cell? ⟨V.heap.size, 0, none⟩ = some ((.int .i64 xq)) := blk_cell BF.out 0
      have o_HB_1 : W11.cell? ⟨W1.heap.size, 1, none⟩ = some ((.int .i64 hh)) := blk_cell HB.out 1
      have f_HB_1 : W11.frozen? ⟨W1.heap.size, 1, none⟩ = false := blk_free HB.out 1
      have hd0 : ¬ (xq - nx - 1 < 0) := by omega
      have hd1 : (0 : Int) ≤ xq - nx - 1 := by omega
      go_region
      go_wp2_with fail
      have hst := HST.out
      unfold putI at hst
      rw [hst]
      go_roundw
      case rel => exact ⟨k + 1, by first | rfl | go_num, by omega, hid (by rw [HH2.out]; exact blk_drew (blk_set HB.out 1 _)), hid (Keeps.drew (Keeps.setCell (HX2.out.trans (HK.out.mono (fun _ _ h => h.elim))) (.inl rfl) _))⟩
      case measure => simp [intOf]; omega
    · have hkn : k = n := by omega
      have q1 : ¬ ((k : Int) < n) := by omega
      have HT : Hd (fs.take k = fs) := hid (List.take_of_length_le (by rw [HN.out, hkn]; exact Nat.le_refl _))
      rw [HT.out, HHH.out] at HB
      subst hkn
      have BX := hid (blk_keep BT.out HX2.out (fun h => by omega))
      have HK2 : Hd (Keeps (fun _ => False) w V) := hid (HK.out.trans' HX2.out (fun b hb h => by omega))
      have o0 : V.cell? ⟨W1.heap.size, 0, none⟩ = some ((.int .i64 nx)) := blk_cell HB.out 0
      have o1 : V.cell? ⟨W1.heap.size, 1, none⟩ = some ((.int .i64 HH)) := blk_cell HB.out 1
      have o2 : V.cell? ⟨W1.heap.size, 2, none⟩ = some ((.int .i64 li)) := blk_cell HB.out 2
      have o3 : V.cell? ⟨W1.heap.size, 3, none⟩ = some ((.bool lk)) := blk_cell HB.out 3
      have b0 : V.cell? ⟨b_BT, 0, none⟩ = some ((.int .i64 0)) := blk_cell BX.out 0
      have b1 : V.cell? ⟨b_BT, 1, none⟩ = some ((.int .i64 0)) := blk_cell BX.out 1
      have b2 : V.cell? ⟨b_BT, 2, none⟩ = some ((.int .i64 0)) := blk_cell BX.out 2
      have b3 : V.cell? ⟨b_BT, 3, none⟩ = some ((.bool false)) := blk_cell BX.out 3
      have v0 : V.frozen? ⟨b_BT, 0, none⟩ = false := blk_free BX.out 0
      have v1 : V.frozen? ⟨b_BT, 1, none⟩ = false := blk_free BX.out 1
      have v2 : V.frozen? ⟨b_BT, 2, none⟩ = false := blk_free BX.out 2
      have v3 : V.frozen? ⟨b_BT, 3, none⟩ = false := blk_free BX.out 3
      go_wp2
      clear o0 o1 o2 o3 b0 b1 b2 b3 v0 v1 v2 v3
      obtain ⟨HV2, B3⟩ := fin4 HK2.out (show w.heap.size ≤ b_BT by omega) BX.out (.int .i64 nx) (.int .i64 HH) (.int .i64 li) (.bool lk)
      have r0 := blk_cell B3 0
      have r1 := blk_cell B3 1
      have r2 := blk_cell B3 2
      have r3 := blk_cell B3 3
      refine bodyPost_ret (v := .agg #[(.int .i64 nx), (.int .i64 HH), (.int .i64 li), (.bool lk)]) (by simp [results, Tryd.results28, go_sem, r0, r1, r2, r3]) rfl ?_
      exact ⟨rfl, HV2⟩
end Go.Proofs.YthoikljmokkchaaDoor
namespace Go.Proofs.YthoikljmokkchaaDoor
open Go.RowKit Go.Shelf
def hasI (nx ha q : Int) : Bool := decide (nx < q) && decide (bits BinOp.and .i64 (ha / 2 ^ ((q - nx).toNat - 1)) 1 = 1)
def misI (nx ha f : Int) : Nat → List Int
  | 0 => []
  | k + 1 => misI nx ha f k ++ (if hasI nx ha (f + (k : Int)) then [] else [f + (k : Int)])
theorem misI_len (nx ha f : Int) (k : Nat) : (misI nx ha f k).length ≤ k := by
  induction k with
  | zero => exact Nat.le_refl _
  | succ k ih => unfold misI; rw [List.length_append]; split <;> simp <;> omega
theorem misI_no {nx ha f : Int} {k : Nat} (h : hasI nx ha (f + (k : Int)) = false) : misI nx ha f (k + 1) = misI nx ha f k ++ [f + (k : Int)] := by
  rw [misI, h]; rfl
theorem misI_yes {nx ha f : Int} {k : Nat} (h : hasI nx ha (f + (k : Int)) = true) : misI nx ha f (k + 1) = misI nx ha f k := by
  rw [misI, h]; exact List.append_nil _
set_option maxRecDepth 100000 in
set_option maxHeartbeats 4000000 in
theorem Missing_any (n : Nat) (ba : Option Addr) (bc : Nat) (ac : Int) (l : Ld) (nx ha ky : Int) (lk : Bool) (w : World) (hn : n ≤ 100000) (hsq : (n : Int) ≤ nx + 60 ∨ ac ≤ nx + 40) (hnx : 0 ≤ nx) (hnx2 : nx ≤ 1000000000) (hac : 0 ≤ ac) (hac2 : ac ≤ 1000000000) (hha : 0 ≤ ha) (hha2 : ha ≤ 1000000000000) :
    Calls Tryd.prog 48 #[.agg #[.slice ba n bc, .int .i64 ac, .int .u64 (l.k : Int), .int .i64 l.i], .agg #[.int .i64 nx, .int .i64 ha, .int .i64 ky, .bool lk]] w fun e w' => ∃ a m c, e = .returned (.slice a m c) ∧ Own (fun b => w.heap.size ≤ b) w' 3 1 (.slice a m c) m (i64s (if lk then [] else misI nx ha (max ac nx) (min (max ac nx + 16) (n : Int) - max ac nx).toNat)) ∧ m = (if lk then [] else misI nx ha (max ac nx) (min (max ac nx + 16) (n : Int) - max ac nx).toNat).length ∧ Keeps (fun _ => False) w w' := by
  obtain ⟨lk1, li⟩ := l
  simp only [] at *
  obtain ⟨i0, hi, hz0, hz1, hz2⟩ := parts1 infoI64h
  go_enter Tryd.func48, Tryd.ntmps48
  go_upto_region 2 with fail
  generalize hW : World.alloc (World.alloc w _) _ = W1
  have KS : Hd (Keeps (fun _ => False) w W1) := hid (by rw [← hW]; exact (Keeps.alloc (Keeps.alloc (Keeps.refl (fun _ => False) w) _) _))
  have BS : Hd (Blk W1 w.heap.size #[(.slice ba n bc), (.int .i64 ac), (.int .u64 (lk1 : Int)), (.int .i64 li)] 57) := hid (by rw [← hW]; exact (blk_alloc (blk_new _ _ _) _))
  have BR : Hd (Blk W1 (w.heap.size + 1) #[(.int .i64 nx), (.int .i64 ha), (.int .i64 ky), (.bool lk)] 50) := hid (by rw [← hW]; exact (blk_new' _ _ _ _ (by simp)))
  have HK : Hd (Keeps (fun _ => False) w W1) := hid KS.out
  have z_W1 : w.heap.size + 2 ≤ W1.heap.size := by rw [← hW]; simp
  clear hW KS
  generalize hb_BR : w.heap.size + 1 = b_BR at *
  have o_BR_3 : W1.cell? ⟨b_BR, 3, none⟩ = some ((.bool lk)) := blk_cell BR.out 3
  cases lk with
  | true =>
    go_wp2
    go_ret
    exact ⟨none, 0, 0, rfl, Own.nil _ _ _ _, rfl, HK.out⟩
  | false =>
    have o_BS_1 : W1.cell? ⟨w.heap.size, 1, none⟩ = some ((.int .i64 ac)) := blk_cell BS.out 1
    have o_BR_0 : W1.cell? ⟨b_BR, 0, none⟩ = some ((.int .i64 nx)) := blk_cell BR.out 0
    go_upto_region 5 with fail
    obtain ⟨fm, hfm⟩ : ∃ fm, (if ac < nx then nx else ac) = fm := ⟨_, rfl⟩
    rw [hfm]
    have hfx : max ac nx = fm := by rw [← hfm]; split <;> omega
    have HFX := hid hfx
    have hf0 : 0 ≤ fm := by omega
    have hf1 : fm ≤ 1000000000 := by omega
    have hf2 : nx ≤ fm := by omega
    have hf3 : (n : Int) ≤ nx + 60 ∨ fm ≤ nx + 40 := by omega
    clear hfm hfx hsq
    obtain ⟨st, hst⟩ : ∃ st, (min (fm + 16) (n : Int) - fm).toNat = st := ⟨_, rfl⟩
    have HST := hid hst
    have hmc : (n : Int) < fm + 16 ∨ fm + 16 ≤ (n : Int) := by omega
    rcases hmc with hmc | hmc
    clear o_BR_3 o_BS_1 o_BR_0
    · have hs1 : ((n : Int) - fm).toNat = st := by omega
      have hs2 : fm + 16 ≤ 1000000100 := by omega
      clear hst
      go_wp2_with fail
      go_loopw [5, 7] (fun lv sv wr => ∃ (k m : Nat) (a : Option Addr) (c : Nat), lv = .slice a m c ∧ sv = .int .i64 (fm + (k : Int)) ∧ k ≤ st ∧ m = (misI nx ha fm k).length ∧ Hd (Own (fun b => W1.heap.size ≤ b) wr 3 1 (.slice a m c) m (i64s (misI nx ha fm k))) ∧ Hd (Keeps (fun _ => False) W1 wr)) (fun _ sv _ => (fm + (st : Int) - intOf sv).toNat)
      case atStart => exact ⟨0, 0, none, 0, rfl, by first | rfl | go_num | simp, Nat.zero_le _, rfl, hid (Own.nil _ _ _ _), hid (Keeps.refl _ _)⟩
      case round =>
        obtain ⟨V, rfl⟩ : ∃ V, V = wr := ⟨_, rfl⟩
        obtain ⟨k, m, a, c, rfl, rfl, hk, hm, HO, HX2⟩ := hrel
        have zV := HX2.out.size
        have HM := hid hm
        have hmk : m ≤ k := by rw [hm]; exact misI_len _ _ _ _
        clear hm
        have p0 : V.cell? ⟨w.heap.size, 0, none⟩ = some (.slice ba n bc) := blk_cell (blk_keep BS.out HX2.out (fun h => h)) 0
        have p2 : V.cell? ⟨b_BR, 0, none⟩ = some (.int .i64 nx) := blk_cell (blk_keep BR.out HX2.out (fun h => h)) 0
        have p3 : V.cell? ⟨b_BR, 1, none⟩ = some (.int .i64 ha) := blk_cell (blk_keep BR.out HX2.out (fun h => h)) 1
        by_cases hlt : k < st
        · have hl2 : fm + (k : Int) < (n : Int) := by omega
          by_cases hg : nx < fm + (k : Int)
          · have hd0 : ¬ (fm + (k : Int) - nx - 1 < 0) := by omega
            have hd1 : (0 : Int) ≤ fm + (k : Int) - nx - 1 := by omega
            have hd2 : fm + (k : Int) - nx - 1 ≤ 64 := by omega
            cases he : (bits BinOp.and .i64 (ha / 2 ^ ((fm + (k : Int) - nx).toNat - 1)) 1 == 1)
            · have HN : Hd (misI nx ha fm (k + 1) = misI nx ha fm k ++ [fm + (k : Int)]) := hid (misI_no (by unfold hasI; simp only [beq_eq_false_iff_ne, ne_eq] at he; simp [hg, he]))
              go_wp2_with (at_builtin; refine wpList_append_row rfl _ _ 61 rfl 3 i0 (.int .i64 0) 1 8 Tryd.underlying61 hi hz0 hz1 hz2 rfl (by decide) _ (fun _ => True) _ _ _ _ rfl (HO.out.alloc _) 1 _ rfl (src_one _ _ trivial) (by intro u hu; simp at hu; subst hu; rfl) ?h1 ?h2 ?_)
              case h1 => simp [maxLen]; omega
              case h2 => omega
              intro a1 cap1 w2 hown' hgrow; try intro _
              have H5 := hid hown'
              have HK5 : Hd (Keeps (fun b => W1.heap.size ≤ b) V w2) := hid ((keeps_alloc _ V _).trans hgrow)
              clear hown' hgrow
              go_wp2
              go_roundw
              case rel =>
                refine ⟨k + 1, m + 1, a1, cap1, by first | rfl | go_num, by first | rfl | go_num, by omega, by rw [HN.out, List.length_append, ← HM.out]; rfl, hid ?_, hid (HX2.out.trans' HK5.out (fun i hi h => by omega))⟩
                have := H5.out.mono (K' := fun b => W1.heap.size ≤ b) (fun b _ hb => by rcases hb with hb | hb <;> omega)
                rw [HN.out, i64s_append]; exact this
              case measure => simp [intOf]; omega
            · have HN : Hd (misI nx ha fm (k + 1) = misI nx ha fm k) := hid (misI_yes (by unfold hasI; simp only [beq_iff_eq] at he; simp [hg, he]))
              go_wp2_with fail
              go_roundw
              case rel => exact ⟨k + 1, m, a, c, rfl, by first | rfl | go_num, by omega, by rw [HN.out]; exact HM.out, hid (by rw [HN.out]; exact HO.out), HX2⟩
              case measure => simp [intOf]; omega
          · have HN : Hd (misI nx ha fm (k + 1) = misI nx ha fm k ++ [fm + (k : Int)]) := hid (misI_no (by unfold hasI; simp [hg]))
            go_wp2_with (at_builtin; refine wpList_append_row rfl _ _ 61 rfl 3 i0 (.int .i64 0) 1 8 Tryd.underlying61 hi hz0 hz1 hz2 rfl (by decide) _ (fun _ => True) _ _ _ _ rfl (HO.out.alloc _) 1 _ rfl (src_one _ _ trivial) (by intro u hu; simp at hu; subst hu; rfl) ?h1 ?h2 ?_)
            case h1 => simp [maxLen]; omega
            case h2 => omega
            intro a1 cap1 w2 hown' hgrow; try intro _
            have H5 := hid hown'
            have HK5 : Hd (Keeps (fun b => W1.heap.size ≤ b) V w2) := hid ((keeps_alloc _ V _).trans hgrow)
            clear hown' hgrow
            go_wp2
            go_roundw
            case rel =>
              refine ⟨k + 1, m + 1, a1, cap1, by first | rfl | go_num, by first | rfl | go_num, by omega, by rw [HN.out, List.length_append, ← HM.out]; rfl, hid ?_, hid (HX2.out.trans' HK5.out (fun i hi h => by omega))⟩
              have := H5.out.mono (K' := fun b => W1.heap.size ≤ b) (fun b _ hb => by rcases hb with hb | hb <;> omega)
              rw [HN.out, i64s_append]; exact this
            case measure => simp [intOf]; omega
        · have hkn : k = st := by omega
          have hl2 : ¬ (fm + (k : Int) < (n : Int)) := by omega
          go_wp2
          go_ret
          rw [HFX.out, HST.out, ← hkn]
          exact ⟨a, m, c, rfl, HO.out.mono (fun b _ h => by have := HK.out.size; omega), HM.out, HK.out.trans HX2.out⟩
    · have hs1 : ((fm + 16) - fm).toNat = st := by omega
      have hs2 : fm + 16 ≤ 1000000100 := by omega
      clear hst
      go_wp2_with fail
      go_loopw [5, 7] (fun lv sv wr => ∃ (k m : Nat) (a : Option Addr) (c : Nat), lv = .slice a m c ∧ sv = .int .i64 (fm + (k : Int)) ∧ k ≤ st ∧ m = (misI nx ha fm k).length ∧ Hd (Own (fun b => W1.heap.size ≤ b) wr 3 1 (.slice a m c) m (i64s (misI nx ha fm k))) ∧ Hd (Keeps (fun _ => False) W1 wr)) (fun _ sv _ => (fm + (st : Int) - intOf sv).toNat)
      case atStart => exact ⟨0, 0, none, 0, rfl, by first | rfl | go_num | simp, Nat.zero_le _, rfl, hid (Own.nil _ _ _ _), hid (Keeps.refl _ _)⟩
      case round =>
        obtain ⟨V, rfl⟩ : ∃ V, V = wr := ⟨_, rfl⟩
        obtain ⟨k, m, a, c, rfl, rfl, hk, hm, HO, HX2⟩ := hrel
        have zV := HX2.out.size
        have HM := hid hm
        have hmk : m ≤ k := by rw [hm]; exact misI_len _ _ _ _
        clear hm
        have p0 : V.cell? ⟨w.heap.size, 0, none⟩ = some (.slice ba n bc) := blk_cell (blk_keep BS.out HX2.out (fun h => h)) 0
        have p2 : V.cell? ⟨b_BR, 0, none⟩ = some (.int .i64 nx) := blk_cell (blk_keep BR.out HX2.out (fun h => h)) 0
        have p3 : V.cell? ⟨b_BR, 1, none⟩ = some (.int .i64 ha) := blk_cell (blk_keep BR.out HX2.out (fun h => h)) 1
        by_cases hlt : k < st
        · have hl2 : fm + (k : Int) < (fm + 16) := by omega
          by_cases hg : nx < fm + (k : Int)
          · have hd0 : ¬ (fm + (k : Int) - nx - 1 < 0) := by omega
            have hd1 : (0 : Int) ≤ fm + (k : Int) - nx - 1 := by omega
            have hd2 : fm + (k : Int) - nx - 1 ≤ 64 := by omega
            cases he : (bits BinOp.and .i64 (ha / 2 ^ ((fm + (k : Int) - nx).toNat - 1)) 1 == 1)
            · have HN : Hd (misI nx ha fm (k + 1) = misI nx ha fm k ++ [fm + (k : Int)]) := hid (misI_no (by unfold hasI; simp only [beq_eq_false_iff_ne, ne_eq] at he; simp [hg, he]))
              go_wp2_with (at_builtin; refine wpList_append_row rfl _ _ 61 rfl 3 i0 (.int .i64 0) 1 8 Tryd.underlying61 hi hz0 hz1 hz2 rfl (by decide) _ (fun _ => True) _ _ _ _ rfl (HO.out.alloc _) 1 _ rfl (src_one _ _ trivial) (by intro u hu; simp at hu; subst hu; rfl) ?h1 ?h2 ?_)
              case h1 => simp [maxLen]; omega
              case h2 => omega
              intro a1 cap1 w2 hown' hgrow; try intro _
              have H5 := hid hown'
              have HK5 : Hd (Keeps (fun b => W1.heap.size ≤ b) V w2) := hid ((keeps_alloc _ V _).trans hgrow)
              clear hown' hgrow
              go_wp2
              go_roundw
              case rel =>
                refine ⟨k + 1, m + 1, a1, cap1, by first | rfl | go_num, by first | rfl | go_num, by omega, by rw [HN.out, List.length_append, ← HM.out]; rfl, hid ?_, hid (HX2.out.trans' HK5.out (fun i hi h => by omega))⟩
                have := H5.out.mono (K' := fun b => W1.heap.size ≤ b) (fun b _ hb => by rcases hb with hb | hb <;> omega)
                rw [HN.out, i64s_append]; exact this
              case measure => simp [intOf]; omega
            · have HN : Hd (misI nx ha fm (k + 1) = misI nx ha fm k) := hid (misI_yes (by unfold hasI; simp only [beq_iff_eq] at he; simp [hg, he]))
              go_wp2_with fail
              go_roundw
              case rel => exact ⟨k + 1, m, a, c, rfl, by first | rfl | go_num, by omega, by rw [HN.out]; exact HM.out, hid (by rw [HN.out]; exact HO.out), HX2⟩
              case measure => simp [intOf]; omega
          · have HN : Hd (misI nx ha fm (k + 1) = misI nx ha fm k ++ [fm + (k : Int)]) := hid (misI_no (by unfold hasI; simp [hg]))
            go_wp2_with (at_builtin; refine wpList_append_row rfl _ _ 61 rfl 3 i0 (.int .i64 0) 1 8 Tryd.underlying61 hi hz0 hz1 hz2 rfl (by decide) _ (fun _ => True) _ _ _ _ rfl (HO.out.alloc _) 1 _ rfl (src_one _ _ trivial) (by intro u hu; simp at hu; subst hu; rfl) ?h1 ?h2 ?_)
            case h1 => simp [maxLen]; omega
            case h2 => omega
            intro a1 cap1 w2 hown' hgrow; try intro _
            have H5 := hid hown'
            have HK5 : Hd (Keeps (fun b => W1.heap.size ≤ b) V w2) := hid ((keeps_alloc _ V _).trans hgrow)
            clear hown' hgrow
            go_wp2
            go_roundw
            case rel =>
              refine ⟨k + 1, m + 1, a1, cap1, by first | rfl | go_num, by first | rfl | go_num, by omega, by rw [HN.out, List.length_append, ← HM.out]; rfl, hid ?_, hid (HX2.out.trans' HK5.out (fun i hi h => by omega))⟩
              have := H5.out.mono (K' := fun b => W1.heap.size ≤ b) (fun b _ hb => by rcases hb with hb | hb <;> omega)
              rw [HN.out, i64s_append]; exact this
            case measure => simp [intOf]; omega
        · have hkn : k = st := by omega
          have hl2 : ¬ (fm + (k : Int) < (fm + 16)) := by omega
          go_wp2
          go_ret
          rw [HFX.out, HST.out, ← hkn]
          exact ⟨a, m, c, rfl, HO.out.mono (fun b _ h => by have := HK.out.size; omega), HM.out, HK.out.trans HX2.out⟩
end Go.Proofs.YthoikljmokkchaaDoor
namespace Go.Proofs.YthoikljmokkchaaDoor
open Go.RowKit
def IdxF (l : List Fr) (q : Int) (w : World) (r : Ending) (w' : World) : Prop := ((∃ (k : Nat) (x : Fr), r = .returned (.int .i64 k) ∧ k < l.length ∧ l[k]? = some x ∧ q ≤ x.q ∧ ∀ i y, i < k → l[i]? = some y → y.q < q) ∨ (r = .returned (.int .i64 (-1)) ∧ ∀ i y, i < l.length → l[i]? = some y → y.q < q)) ∧ Keeps (fun _ => False) w w'
set_option maxRecDepth 100000 in
set_option maxHeartbeats 1000000 in
theorem Keep1_any (xq xk : Int) (xu : Bool) (bv : Value) (xt : Nat) (p : Nat) (q : Int) (w : World) (hp : w.cell? ⟨p, 0, none⟩ = some (.int .i64 q)) (hb : ∃ a n c, bv = .slice a n c) :
    Calls Tryd.prog 105 #[.agg #[.int .i64 xq, .int .i64 xk, .bool xu, bv, .int .u64 (xt : Int)], .pointer (some ⟨p, 0, none⟩)] w fun e w' => e = .returned (.bool (decide (q ≤ xq))) ∧ Keeps (fun _ => False) w w' := by
  obtain ⟨a, n, c, rfl⟩ := hb
  go_enter Tryd.func105, Tryd.ntmps105
  go_upto_region 1 with fail
  generalize hW : World.alloc w _ = W
  have BX : Hd (Blk W w.heap.size #[.int .i64 xq, .int .i64 xk, .bool xu, .slice a n c, .int .u64 (xt : Int)] 25) := hid (by rw [← hW]; exact blk_new _ _ _)
  have KW : Hd (Keeps (fun _ => False) w W) := hid (by rw [← hW]; exact keeps_alloc _ _ _)
  clear hW
  have o0 : W.cell? ⟨w.heap.size, 0, none⟩ = some (.int .i64 xq) := blk_cell BX.out 0
  have o1 : W.cell? ⟨p, 0, none⟩ = some (.int .i64 q) := keep_cell KW.out (fun h => h) hp
  clear hp
  go_wp2
  go_ret
  exact ⟨by first | rfl | simp, KW.out⟩
set_option maxRecDepth 100000 in
set_option maxHeartbeats 1000000 in
theorem IndexF_any (K : Nat → Prop) (a : Option Addr) (c : Nat) (l : List Fr) (p : Nat) (q : Int) (w : World) (hl : Frs K w (.slice a l.length c) l) (hp : w.cell? ⟨p, 0, none⟩ = some (.int .i64 q)) (hm : l.length ≤ 1000000) :
    Calls Tryd.prog 104 #[.slice a l.length c, .func (.func 105) #[] #[.pointer (some ⟨p, 0, none⟩)]] w fun e w' => IdxF l q w e w' := by
  have HL := hid hl; have HP := hid hp
  clear hl hp
  generalize hll : l.length = m at *
  have HLL := hid hll; clear hll
  go_enter Tryd.func104, Tryd.ntmps104
  go_wp2_with fail
  go_loopw [8] (fun i wr => ∃ k : Nat, i = .int .i64 k ∧ k ≤ m ∧ Hd (∀ i y, i < k → l[i]? = some y → y.q < q) ∧ Hd (Keeps (fun _ => False) w wr)) (fun i _ => m - (intOf i).toNat)
  case atStart => exact ⟨0, rfl, Nat.zero_le _, hid (fun i y hi => by omega), hid (Keeps.refl _ _)⟩
  case round =>
    obtain ⟨k, rfl, hk, HBE, HD⟩ := hrel
    by_cases hkm : k < m
    · obtain ⟨b, off, rfl, hb1, hb2, hc⟩ := frs_cells HL.out (by rw [HLL.out]; omega)
      clear HL
      obtain ⟨y, hy⟩ : ∃ y, l[k]? = some y := ⟨l[k]'(by rw [HLL.out]; exact hkm), List.getElem?_eq_getElem _⟩
      obtain ⟨e0, e1, e2, e4, ad, cd, e3, -⟩ := hc k y hy
      have HXK := hid hy
      have f0 := keep_cell HD.out (fun h => h) e0
      have f1 := keep_cell HD.out (fun h => h) e1
      have f2 := keep_cell HD.out (fun h => h) e2
      have f3 := keep_cell HD.out (fun h => h) e3
      have f4 := keep_cell HD.out (fun h => h) e4
      have k1 : (k : Int) < m := by omega
      have k2 : (0 : Int) ≤ k := by omega
      clear e0 e1 e2 e3 e4 hy hc
      go_wp2_with fail
      refine (Keep1_any y.q _ _ _ _ p q _ (keep_cell HD.out (fun h => h) HP.out) ⟨_, _, _, rfl⟩).mono ?_
      rintro e w2 ⟨rfl, hk2⟩
      have K2 := hid (HD.out.trans hk2)
      clear hk2
      by_cases e1 : q ≤ y.q
      · have HR : Hd (IdxF l q w (.returned (.int .i64 k)) w2) := hid ⟨.inl ⟨k, y, rfl, by rw [HLL.out]; exact hkm, HXK.out, e1, HBE.out⟩, K2.out⟩
        rw [decide_eq_true e1]
        clear e1
        go_wp2
        go_ret
        exact HR.out
      · have d1 : y.q < q := by omega
        rw [decide_eq_false e1]
        clear e1
        go_wp2
        go_roundw
        case rel =>
          refine ⟨k + 1, by go_num, by omega, hid (fun i y' hi hy' => ?_), K2⟩
          rcases Nat.lt_or_ge i k with h | h
          · exact HBE.out i y' h hy'
          · obtain rfl : i = k := by omega
            rw [HXK.out] at hy'; injection hy' with hy'; subst hy'
            exact d1
        case measure => simp [intOf]; omega
    · have hkm2 : k = m := by omega
      have HR : Hd (IdxF l q w (.returned (.int .i64 (-1))) wr) := hid ⟨.inr ⟨rfl, fun i y hi hy => HBE.out i y (by rw [HLL.out] at hi; omega) hy⟩, HD.out⟩
      have k0 : ¬ ((k : Int) < m) := by omega
      clear hkm hkm2
      go_wp2
      go_ret
      exact HR.out
end Go.Proofs.YthoikljmokkchaaDoor
namespace Go.Proofs.YthoikljmokkchaaDoor
open Go.RowKit
theorem lit_srcF (w : World) (cs : List Value) (T : TypeId) : ∀ (j : Nat) (u : Value), cs[j]? = some u → (w.alloc (.cells cs.toArray T)).cell? ((⟨w.heap.size, 0, none⟩ : Addr).add j) = some u := by
  intro j u hu
  have h := blk_cell (blk_new w cs.toArray T) j
  unfold Addr.add
  split
  · rename_i h0; subst h0; rw [h]; simpa using hu
  · simp only [Nat.zero_add]; rw [h]; simpa using hu
def frCells (f : Fr) (ad : Option Addr) (cd : Nat) : List Value := [.int .i64 f.q, .int .i64 f.k, .bool f.u, .slice ad f.b.length cd, .int .u64 (f.t : Int)]
def KeepP (w : World) (K : Nat → Prop) (l : List Fr) (xs : List Value) (f : Fr) (ad : Option Addr) (cd : Nat) (e : Ending) (w' : World) : Prop :=
  (∃ (k : Nat) (a : Option Addr) (c : Nat), k ≤ l.length ∧ (∀ (i : Nat) (y : Fr), i < k → l[i]? = some y → y.q < f.q) ∧ (∀ (y : Fr), l[k]? = some y → f.q < y.q) ∧ e = .returned (.slice a (l.length + 1) c) ∧ Own (fun b => w.heap.size ≤ b) w' 25 5 (.slice a (l.length + 1) c) (l.length + 1) (xs.take (k * 5) ++ frCells f ad cd ++ xs.drop (k * 5)) ∧ Keeps (fun _ => False) w w') ∨
  (∃ (k : Nat) (x : Fr) (a : Option Addr) (c : Nat), l[k]? = some x ∧ x.q = f.q ∧ (∀ (i : Nat) (y : Fr), i < k → l[i]? = some y → y.q < f.q) ∧ e = .returned (.slice a l.length c) ∧ Frs (fun b => K b ∨ w.heap.size ≤ b) w' (.slice a l.length c) l ∧ Keeps (fun _ => False) w w')
set_option maxRecDepth 100000 in
set_option maxHeartbeats 4000000 in
theorem keep_raw (l : List Fr) (xs : List Value) (a : Option Addr) (c : Nat) (f : Fr) (ad : Option Addr) (cd : Nat) (w : World) (K : Nat → Prop) (hK : ∀ b, K b → b < w.heap.size) (hrow : Row K w 5 (.slice a l.length c) l.length xs) (hfl : FrL K w xs l) (hm : l.length ≤ 1000) :
    Calls Tryd.prog 70 #[.slice a l.length c, .agg #[.int .i64 f.q, .int .i64 f.k, .bool f.u, .slice ad f.b.length cd, .int .u64 (f.t : Int)]] w fun e w' => KeepP w K l xs f ad cd e w' := by
  obtain ⟨i0, zz, hi, hz0, hz1, hz2, hz3⟩ := fr_parts
  have HKW := hid hK
  clear hK
  have HROW := hid (hrow.mono (K' := fun b => b < w.heap.size) (fun b h _ => h))
  have HLK : Hd (Frs K w (.slice a l.length c) l) := hid ⟨xs, hrow, hfl⟩
  have HL : Hd (Frs (fun b => b < w.heap.size) w (.slice a l.length c) l) := hid (HLK.out.mono (fun b h _ => h))
  have HONE : Hd (∀ u ∈ xs, u.oneCell' = true) := hid hfl.ones
  clear hrow hfl
  obtain ⟨m, hll⟩ : ∃ m, l.length = m := ⟨_, rfl⟩
  have HLL := hid hll
  unfold KeepP
  rw [hll] at HROW HL HLK hm ⊢
  clear hll
  have hcm : m ≤ c := by
    obtain ⟨_, _, e, g1, _⟩ := HROW.out.form
    injection e with _ _ e
    omega
  go_enter Tryd.func70, Tryd.ntmps70
  go_upto_region 1 with fail
  generalize hW : World.alloc w _ = W
  have BX : Hd (Blk W w.heap.size #[.int .i64 f.q, .int .i64 f.k, .bool f.u, .slice ad f.b.length cd, .int .u64 (f.t : Int)] 25) := hid (by rw [← hW]; exact blk_new _ _ _)
  have KW : Hd (Keeps (fun _ => False) w W) := hid (by rw [← hW]; exact keeps_alloc _ _ _)
  clear hW
  go_wp2_with fail
  have hcall := IndexF_any _ a c l w.heap.size f.q W (by rw [HLL.out]; exact HL.out.keep KW.out (fun _ _ _ h => h)) (blk_cell BX.out 0) (by rw [HLL.out]; omega)
  rw [HLL.out] at hcall
  refine hcall.mono ?_
  clear hcall
  rintro e V ⟨h, hk⟩
  have KV := hid (KW.out.trans hk); have BV := hid (blk_keep BX.out hk (fun h => h))
  clear hk BX KW
  rcases h with ⟨k, x, rfl, hkl, hx, hq, hbe⟩ | ⟨rfl, hbe⟩
  · by_cases hxe : x.q = f.q
    · have hkm : k < m := by rw [HLL.out] at hkl; exact hkl
      have hne : (x.q == f.q) = true := by simp; omega
      obtain ⟨bx, ox, rfl, -, -, hc⟩ := frs_cells HL.out (by rw [HLL.out]; omega)
      have ik := keep_cell KV.out (fun h => h) (hc k x hx).1
      have b0 : V.cell? ⟨w.heap.size, 0, none⟩ = some (.int .i64 f.q) := blk_cell BV.out 0
      have q1 : (k : Int) < m := by omega
      have q2 : (0 : Int) ≤ k := by omega
      have q3 : ¬ ((k : Int) < 0) := by omega
      clear hc hq
      go_upto_region 4 with fail
      go_quiet (fail)
      clear ik b0
      have HLV : Hd (Frs K V (.slice (some ⟨bx, ox, none⟩) m c) l) := hid (HLK.out.keep KV.out (fun _ _ _ h => h))
      go_wp2_with fail
      refine (CloneFr_any K _ l _ ?hv (by rw [HLL.out]; omega)).mono ?_
      case hv => first | exact HLV.out | exact HLV.out.keep (S := fun _ => False) (Keeps.drew (Keeps.refl _ _)) (fun _ _ _ h => h) | exact HLV.out.keep (S := fun _ => False) (by repeat (first | (with_reducible exact Keeps.refl _ _) | (with_reducible apply Keeps.drewN) | (with_reducible apply Keeps.drew))) (fun _ _ _ h => h)
      rintro e w2 ⟨a3, c3, rfl, hp, hk3⟩
      rw [HLL.out] at hp ⊢
      have HP3 := hid hp
      have K3 : Hd (Keeps (fun _ => False) V w2) := hid (Keeps.trans (S := fun _ => False) (by repeat (first | (with_reducible exact Keeps.refl _ _) | (with_reducible apply Keeps.drewN) | (with_reducible apply Keeps.drew))) hk3)
      clear hp hk3
      go_wp2
      go_ret
      exact .inr ⟨k, x, a3, c3, hx, hxe, fun i y hi hy => hbe i y hi hy, rfl, HP3.out.sgs.mono (fun b _ h => by have z1 := KV.out.size; have z2 := (show V.heap.size ≤ _ from Nat.le_refl _); rcases h with h | h; exact .inl h.1; exact .inr (by first | omega | (simp at h; omega))), KV.out.trans K3.out⟩
    · have hkm : k < m := by rw [HLL.out] at hkl; exact hkl
      have hgt : f.q < x.q := by omega
      have hne : (x.q == f.q) = false := by simp; omega
      obtain ⟨bx, ox, rfl, -, -, hc⟩ := frs_cells HL.out (by rw [HLL.out]; omega)
      have ik := keep_cell KV.out (fun h => h) (hc k x hx).1
      have b0 : V.cell? ⟨w.heap.size, 0, none⟩ = some (.int .i64 f.q) := blk_cell BV.out 0
      have q1 : (k : Int) < m := by omega
      have q2 : (0 : Int) ≤ k := by omega
      have q3 : ¬ ((k : Int) < 0) := by omega
      clear hc hxe hq
      go_upto_region 4 with fail
      go_quiet (fail)
      clear ik b0
      obtain ⟨a1, hcut1, hr1⟩ := run_cut_full (P := Tryd.prog) (t := 31) Tryd.underlying31 hi hz1 (HROW.out.keep KV.out (fun _ _ _ h => h)) k (by omega)
      obtain ⟨a2, c2, hcut2, hr2⟩ := run_cut_from (P := Tryd.prog) (t := 31) Tryd.underlying31 hi hz1 (HROW.out.keep KV.out (fun _ _ _ h => h)) (lo := (k : Int)) k rfl (by omega)
      skip
      have Q1 := hid hr1; have Q2 := hid hr2
      clear hr1 hr2
      have L5 : Hd (Keeps (fun _ => False) V V) := hid (Keeps.refl _ _)
      have HSS : Hd (∀ w', Keeps (fun _ => False) V w' → (w'.cell? ⟨w.heap.size, 0, none⟩ = some (.int .i64 f.q) ∧ w'.cell? ⟨w.heap.size, 1, none⟩ = some (.int .i64 f.k) ∧ w'.cell? ⟨w.heap.size, 2, none⟩ = some (.bool f.u) ∧ w'.cell? ⟨w.heap.size, 3, none⟩ = some (.slice ad f.b.length cd) ∧ w'.cell? ⟨w.heap.size, 4, none⟩ = some (.int .u64 (f.t : Int)))) := hid (fun w' hk => by
        have := blk_keep BV.out hk (fun h => h)
        exact ⟨blk_cell this 0, blk_cell this 1, blk_cell this 2, blk_cell this 3, blk_cell this 4⟩)
      go_upto_region 6 with fail
      go_region_held_law (fun w' => w'.cell? ⟨w.heap.size, 0, none⟩ = some (.int .i64 f.q) ∧ w'.cell? ⟨w.heap.size, 1, none⟩ = some (.int .i64 f.k) ∧ w'.cell? ⟨w.heap.size, 2, none⟩ = some (.bool f.u) ∧ w'.cell? ⟨w.heap.size, 3, none⟩ = some (.slice ad f.b.length cd) ∧ w'.cell? ⟨w.heap.size, 4, none⟩ = some (.int .u64 (f.t : Int))) ((refine HSS.out _ ?_; repeat (first | (with_reducible exact K7.out) | (with_reducible exact K6.out) | (with_reducible exact (L5.out.mono (fun _ _ h => h.elim))) | (with_reducible exact Keeps.refl _ _) | (with_reducible apply Keeps.drewN) | (with_reducible apply Keeps.drew) | (with_reducible apply Keeps.alloc))))
        (first
        | (refine step_append_full rfl (.tmp 29) (.tmp 31) 31 rfl 25 i0 zz 5 56 Tryd.underlying31 hi hz0 hz1 hz2 hz3 (by decide) (fun b => b < w.heap.size) a1 (k) _ (by simp [Act.eval, Act.put]) (Q1.out.keep (S := fun _ => False) (by repeat (first | (with_reducible exact L5.out) | (with_reducible exact Keeps.refl _ _) | (with_reducible apply Keeps.drewN) | (with_reducible apply Keeps.drew) | (with_reducible apply Keeps.alloc))) (fun _ _ _ h => h)) ⟨V.heap.size, 0, none⟩ 1 1 (frCells f ad cd) (by simp [Act.eval, Act.put]) rfl (by exact lit_srcF _ _ _) (by intro u hu; simp [frCells] at hu; rcases hu with rfl | rfl | rfl | rfl | rfl <;> rfl) (by omega) (by simp [maxLen]; omega) (by omega) ?_; intro a6 c6 w6 hown6 hk6; have HO6 := hid (hown6.mono (K' := fun b => V.heap.size ≤ b) (fun b _ h => Nat.le_trans (Keeps.size (S := fun _ => False) (w := V) (by repeat (first | (with_reducible exact L5.out) | (with_reducible exact Keeps.refl _ _) | (with_reducible apply Keeps.drewN) | (with_reducible apply Keeps.drew) | (with_reducible apply Keeps.alloc)))) h)); have K6 : Hd (Keeps (fun _ => False) V w6) := hid (Keeps.trans (S := fun _ => False) (by repeat (first | (with_reducible exact L5.out) | (with_reducible exact Keeps.refl _ _) | (with_reducible apply Keeps.drewN) | (with_reducible apply Keeps.drew) | (with_reducible apply Keeps.alloc))) hk6); clear hown6 hk6))
      simp only [List.getElem_toArray, List.getElem_cons_succ, List.getElem_cons_zero, List.setIfInBounds_toArray, List.set_cons_zero, List.set_cons_succ]
      have ONE1 : Hd (∀ u ∈ (xs.drop ((k) * 5)).take ((m - k) * 5), u.oneCell' = true) := hid (fun u hu => HONE.out u (List.mem_of_mem_drop (List.mem_of_mem_take hu)))
      go_wp2_with (at_builtin; refine wpList_append_row rfl _ _ 31 rfl 25 i0 zz 5 56 Tryd.underlying31 hi hz0 hz1 hz2 hz3 (by decide) _ (fun b => b < w.heap.size) _ _ _ _ rfl HO6.out (m - k) _ rfl (Q2.out.keep K6.out (fun _ _ _ h => h)) ONE1.out ?h1 ?h2 ?_)
      case h1 => simp [maxLen]; omega
      case h2 => omega
      intro a7 c7 w7 hown7 hk7; try intro _
      have HO7 := hid hown7
      have K7 : Hd (Keeps (fun _ => False) V w7) := hid (K6.out.trans' hk7 (fun i hi h => by omega))
      clear hown7 hk7
      go_wp2
      go_ret
      have e1 : k + 1 + (m - k) = m + 1 := by omega
      have e2 : (xs.drop ((k) * 5)).take ((m - k) * 5) = xs.drop ((k) * 5) := List.take_of_length_le (by rw [List.length_drop, HROW.out.1]; omega)
      have e3 := HO7.out
      rw [e1, e2] at e3
      have zR := KV.out.size
      have z6 := K6.out.size
      try rw [e1]
      exact .inl ⟨k, a7, c7, by omega, fun i y hi hy => hbe i y (by first | exact hi | (rw [HLL.out]; exact hi)) hy, fun y hy => (by rw [hx] at hy; injection hy with hy; subst hy; exact hgt), rfl, (by rw [List.append_assoc]; exact e3.mono (fun b _ h => by rcases h with h | h <;> omega)), KV.out.trans K7.out⟩
  · have hlt : ¬ ((0 : Int) ≤ -1) := by omega
    obtain ⟨a1, hcut1, hr1⟩ := run_cut_full (P := Tryd.prog) (t := 31) Tryd.underlying31 hi hz1 (HROW.out.keep KV.out (fun _ _ _ h => h)) m (by omega)
    obtain ⟨a2, c2, hcut2, hr2⟩ := run_cut_from (P := Tryd.prog) (t := 31) Tryd.underlying31 hi hz1 (HROW.out.keep KV.out (fun _ _ _ h => h)) (lo := (m : Int)) m rfl (by omega)
    rw [Nat.sub_self] at hr2 hcut2
    have Q1 := hid hr1; have Q2 := hid hr2
    clear hr1 hr2
    have L5 : Hd (Keeps (fun _ => False) V V) := hid (Keeps.refl _ _)
    have HSS : Hd (∀ w', Keeps (fun _ => False) V w' → (w'.cell? ⟨w.heap.size, 0, none⟩ = some (.int .i64 f.q) ∧ w'.cell? ⟨w.heap.size, 1, none⟩ = some (.int .i64 f.k) ∧ w'.cell? ⟨w.heap.size, 2, none⟩ = some (.bool f.u) ∧ w'.cell? ⟨w.heap.size, 3, none⟩ = some (.slice ad f.b.length cd) ∧ w'.cell? ⟨w.heap.size, 4, none⟩ = some (.int .u64 (f.t : Int)))) := hid (fun w' hk => by
      have := blk_keep BV.out hk (fun h => h)
      exact ⟨blk_cell this 0, blk_cell this 1, blk_cell this 2, blk_cell this 3, blk_cell this 4⟩)
    go_upto_region 6 with fail
    go_region_held_law (fun w' => w'.cell? ⟨w.heap.size, 0, none⟩ = some (.int .i64 f.q) ∧ w'.cell? ⟨w.heap.size, 1, none⟩ = some (.int .i64 f.k) ∧ w'.cell? ⟨w.heap.size, 2, none⟩ = some (.bool f.u) ∧ w'.cell? ⟨w.heap.size, 3, none⟩ = some (.slice ad f.b.length cd) ∧ w'.cell? ⟨w.heap.size, 4, none⟩ = some (.int .u64 (f.t : Int))) ((refine HSS.out _ ?_; repeat (first | (with_reducible exact K7.out) | (with_reducible exact K6.out) | (with_reducible exact (L5.out.mono (fun _ _ h => h.elim))) | (with_reducible exact Keeps.refl _ _) | (with_reducible apply Keeps.drewN) | (with_reducible apply Keeps.drew) | (with_reducible apply Keeps.alloc))))
      (first
      | (refine step_append_full rfl (.tmp 29) (.tmp 31) 31 rfl 25 i0 zz 5 56 Tryd.underlying31 hi hz0 hz1 hz2 hz3 (by decide) (fun b => b < w.heap.size) a1 (m) _ (by simp [Act.eval, Act.put]) (Q1.out.keep (S := fun _ => False) (by repeat (first | (with_reducible exact L5.out) | (with_reducible exact Keeps.refl _ _) | (with_reducible apply Keeps.drewN) | (with_reducible apply Keeps.drew) | (with_reducible apply Keeps.alloc))) (fun _ _ _ h => h)) ⟨V.heap.size, 0, none⟩ 1 1 (frCells f ad cd) (by simp [Act.eval, Act.put]) rfl (by exact lit_srcF _ _ _) (by intro u hu; simp [frCells] at hu; rcases hu with rfl | rfl | rfl | rfl | rfl <;> rfl) (by omega) (by simp [maxLen]; omega) (by omega) ?_; intro a6 c6 w6 hown6 hk6; have HO6 := hid (hown6.mono (K' := fun b => V.heap.size ≤ b) (fun b _ h => Nat.le_trans (Keeps.size (S := fun _ => False) (w := V) (by repeat (first | (with_reducible exact L5.out) | (with_reducible exact Keeps.refl _ _) | (with_reducible apply Keeps.drewN) | (with_reducible apply Keeps.drew) | (with_reducible apply Keeps.alloc)))) h)); have K6 : Hd (Keeps (fun _ => False) V w6) := hid (Keeps.trans (S := fun _ => False) (by repeat (first | (with_reducible exact L5.out) | (with_reducible exact Keeps.refl _ _) | (with_reducible apply Keeps.drewN) | (with_reducible apply Keeps.drew) | (with_reducible apply Keeps.alloc))) hk6); clear hown6 hk6))
    simp only [List.getElem_toArray, List.getElem_cons_succ, List.getElem_cons_zero, List.setIfInBounds_toArray, List.set_cons_zero, List.set_cons_succ]
    have ONE1 : Hd (∀ u ∈ (xs.drop ((m) * 5)).take (0 * 5), u.oneCell' = true) := hid (fun u hu => HONE.out u (List.mem_of_mem_drop (List.mem_of_mem_take hu)))
    go_wp2_with (at_builtin; refine wpList_append_row rfl _ _ 31 rfl 25 i0 zz 5 56 Tryd.underlying31 hi hz0 hz1 hz2 hz3 (by decide) _ (fun b => b < w.heap.size) _ _ _ _ rfl HO6.out 0 _ rfl (Q2.out.keep K6.out (fun _ _ _ h => h)) ONE1.out ?h1 ?h2 ?_)
    case h1 => simp [maxLen]; omega
    case h2 => omega
    intro a7 c7 w7 hown7 hk7; try intro _
    have HO7 := hid hown7
    have K7 : Hd (Keeps (fun _ => False) V w7) := hid (K6.out.trans' hk7 (fun i hi h => by omega))
    clear hown7 hk7
    go_wp2
    go_ret
    have e1 : m + 1 + 0 = m + 1 := by omega
    have e2 : (xs.drop ((m) * 5)).take (0 * 5) = xs.drop ((m) * 5) := List.take_of_length_le (by rw [List.length_drop, HROW.out.1]; omega)
    have e3 := HO7.out
    have e4 : xs.drop (m * 5) = [] := List.drop_eq_nil_of_le (by rw [HROW.out.1]; exact Nat.le_refl _)
    have zR := KV.out.size
    have z6 := K6.out.size
    try rw [e1]
    exact .inl ⟨m, a7, c7, by omega, fun i y hi hy => hbe i y (by first | exact hi | (rw [HLL.out]; exact hi)) hy, fun y hy => (by rw [List.getElem?_eq_none (by rw [HLL.out]; exact Nat.le_refl _)] at hy; cases hy), rfl, (by rw [e4, List.append_nil]; exact e3.mono (fun b _ h => by rcases h with h | h <;> omega)), KV.out.trans K7.out⟩
end Go.Proofs.YthoikljmokkchaaDoor
