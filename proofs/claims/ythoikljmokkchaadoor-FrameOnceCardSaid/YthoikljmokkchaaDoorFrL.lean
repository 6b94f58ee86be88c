/- Frame: State. -/
import Derived.Test.YthoikljmokkchaaDoorFrK
namespace Go.Proofs.YthoikljmokkchaaDoor
open Go.RowKit
def putI (h d : Int) : Int := bits BinOp.or .i64 h (wrap64 (2 ^ (d.toNat - 1)))
def havI (nx : Int) (l : List Fr) : Int := l.foldl (fun h x => putI h (x.q - nx)) 0
theorem havI_take {nx : Int} {l : List Fr} {k : Nat} {x : Fr} (h : l[k]? = some x) : havI nx (l.take (k + 1)) = putI (havI nx (l.take k)) (x.q - nx) := by
  unfold havI
  rw [List.take_add_one, h]
  simp [List.foldl_append]
set_option maxRecDepth 100000 in
set_option maxHeartbeats 4000000 in
theorem State_any (fs : List Fr) (fa : Option Addr) (fc : Nat) (nx : Int) (lk : Bool) (l : Ld) (K : Nat → Prop) (w : World) (hv : Frs K w (.slice fa fs.length fc) fs) (hn : fs.length ≤ 100000) (hnx : 0 ≤ nx) (hnx2 : nx ≤ 1000000000) (hq : ∀ x ∈ fs, nx < x.q ∧ x.q ≤ nx + 60) :
    Calls Tryd.prog 28 #[.agg #[.int .i64 nx, .slice fa fs.length fc, .bool lk, .int .u64 (l.k : Int), .int .i64 l.i]] w fun e w' => e = .returned (.agg #[.int .i64 nx, .int .i64 (havI nx fs), .int .i64 l.i, .bool lk]) ∧ Keeps (fun _ => False) w w' := by
  have HV := hid (hv.mono (K' := fun b => b < w.heap.size) (fun b h _ => h)); have HQ := hid hq
  clear hv hq
  obtain ⟨n, hnn⟩ : ∃ n, fs.length = n := ⟨_, rfl⟩
  have HN := hid hnn
  rw [hnn] at HV hn ⊢
  clear hnn
  obtain ⟨lk1, li⟩ := l
  simp only [] at *
  obtain ⟨HH, hhh⟩ : ∃ HH, havI nx fs = HH := ⟨_, rfl⟩
  have HHH := hid hhh
  rw [hhh]
  clear hhh
  go_enter Tryd.func28, Tryd.ntmps28
  go_upto_region 1 with fail
  generalize hW : World.alloc (World.alloc w _) _ = W1
  have KS : Hd (Keeps (fun _ => False) w W1) := hid (by rw [← hW]; exact (Keeps.alloc (Keeps.alloc (Keeps.refl (fun _ => False) w) _) _))
  have HV' : Hd (Frs (fun b => b < w.heap.size) W1 (.slice fa n fc) fs) := hid (HV.out.keep KS.out (fun _ _ _ h => h))
  have BR : Hd (Blk W1 w.heap.size #[(.int .i64 nx), (.slice fa n fc), (.bool lk), (.int .u64 (lk1 : Int)), (.int .i64 li)] 35) := hid (by rw [← hW]; exact (blk_alloc (blk_new _ _ _) _))
  have BT : Hd (Blk W1 (w.heap.size + 1) #[(.int .i64 0), (.int .i64 0), (.int .i64 0), (.bool false)] 50) := hid (by rw [← hW]; exact (blk_new' _ _ _ _ (by simp)))
  clear HV
  have HV := HV'
  clear HV'
  have HK : Hd (Keeps (fun _ => False) w W1) := hid KS.out
  have z_W1 : w.heap.size + 2 ≤ W1.heap.size := by rw [← hW]; simp
  clear hW KS
  generalize hb_BT : w.heap.size + 1 = b_BT at *
  have o_BR_0 : W1.cell? ⟨w.heap.size, 0, none⟩ = some ((.int .i64 nx)) := blk_cell BR.out 0
  have o_BR_2 : W1.cell? ⟨w.heap.size, 2, none⟩ = some ((.bool lk)) := blk_cell BR.out 2
  have o_BR_4 : W1.cell? ⟨w.heap.size, 4, none⟩ = some ((.int .i64 li)) := blk_cell BR.out 4
  go_upto_region 2 with fail
  clear o_BR_0 o_BR_2 o_BR_4
  generalize hW : World.alloc W1 _ = W2
  have KS : Hd (Keeps (fun _ => False) W1 W2) := hid (by rw [← hW]; exact (Keeps.alloc (Keeps.refl (fun _ => False) W1) _))
  have HV' : Hd (Frs (fun b => b < w.heap.size) W2 (.slice fa n fc) fs) := hid (HV.out.keep KS.out (fun _ _ _ h => h))
  have BR' : Hd (Blk W2 w.heap.size #[(.int .i64 nx), (.slice fa n fc), (.bool lk), (.int .u64 (lk1 : Int)), (.int .i64 li)] 35) := hid (by rw [← hW]; exact (blk_alloc BR.out _))
  have BT' : Hd (Blk W2 b_BT #[(.int .i64 0), (.int .i64 0), (.int .i64 0), (.bool false)] 50) := hid (by rw [← hW]; exact (blk_alloc BT.out _))
  have BS : Hd (Blk W2 W1.heap.size #[(.int .i64 nx), (.int .i64 0), (.int .i64 li), (.bool lk)] 50) := hid (by rw [← hW]; exact (blk_new _ _ _))
  clear HV BR BT
  have HV := HV'
  clear HV'
  have BR := BR'
  clear BR'
  have BT := BT'
  clear BT'
  have HK' : Hd (Keeps (fun _ => False) w W2) := hid (HK.out.trans KS.out)
  clear HK
  have HK := HK'
  clear HK'
  have z_W2 : W1.heap.size + 1 ≤ W2.heap.size := by rw [← hW]; simp
  clear hW KS
  have o_BR_1 : W2.cell? ⟨w.heap.size, 1, none⟩ = some ((.slice fa n fc)) := blk_cell BR.out 1
  go_wp2_with fail
  clear o_BR_1
  go_loopw [17] (fun iv wr => ∃ k : Nat, iv = .int .i64 (k : Int) ∧ k ≤ n ∧ Hd (Blk wr W1.heap.size #[.int .i64 nx, .int .i64 (havI nx (fs.take k)), .int .i64 li, .bool lk] 50) ∧ Hd (Keeps (fun b => b = W1.heap.size) W2 wr)) (fun iv _ => n - (intOf iv).toNat)
  case atStart => exact ⟨0, rfl, Nat.zero_le _, hid BS.out, hid (Keeps.refl _ _)⟩
  case round =>
    obtain ⟨V, rfl⟩ : ∃ V, V = wr := ⟨_, rfl⟩
    obtain ⟨k, rfl, hk, HB, HX2⟩ := hrel
    by_cases hlt : k < n
    · have q1 : (k : Int) < n := by omega
      have q2 : (0 : Int) ≤ k := by omega
      obtain ⟨bx, ox, rfl, hbx, -, hc⟩ := frs_cells HV.out (by rw [HN.out]; omega)
      have hkl : k < fs.length := by rw [HN.out]; exact hlt
      obtain ⟨x, hxk⟩ : ∃ x, fs[k]? = some x := ⟨fs[k], List.getElem?_eq_getElem hkl⟩
      obtain ⟨e0, e1, e2, e4, ad, cd, e3, hsx⟩ := hc k x hxk
      have hne : ¬ (bx = W1.heap.size) := by omega
      have i0 := keep_cell HX2.out hne e0
      have i1 := keep_cell HX2.out hne e1
      have i2 := keep_cell HX2.out hne e2
      have i3 := keep_cell HX2.out hne e3
      have i4 := keep_cell HX2.out hne e4
      have hxq := HQ.out x (List.mem_of_getElem? hxk)
      have hq1 := hxq.1
      have hq2 := hxq.2
      obtain ⟨hh, hhh⟩ : ∃ hh, havI nx (fs.take k) = hh := ⟨_, rfl⟩
      obtain ⟨h2, hh2⟩ : ∃ h2, havI nx (fs.take (k + 1)) = h2 := ⟨_, rfl⟩
      have hst : putI hh (x.q - nx) = h2 := by rw [← hhh, ← hh2]; exact (havI_take hxk).symm
      rw [hhh] at HB
      obtain ⟨xq, hxqq⟩ : ∃ q, x.q = q := ⟨_, rfl⟩
      obtain ⟨xk, hxkk⟩ : ∃ q, x.k = q := ⟨_, rfl⟩
      obtain ⟨xu, hxuu⟩ : ∃ q, x.u = q := ⟨_, rfl⟩
      obtain ⟨xt, hxtt⟩ : ∃ q, x.t = q := ⟨_, rfl⟩
      obtain ⟨xb, hxbb⟩ : ∃ q, x.b.length = q := ⟨_, rfl⟩
      rw [hxqq] at i0 hq1 hq2 hst
      rw [hxkk] at i1
      rw [hxuu] at i2
      rw [hxbb] at i3
      rw [hxtt] at i4
      have HST := hid hst
      have HH2 := hid hh2
      clear hst hh2 hhh hxq hsx hc e0 e1 e2 e3 e4 hxkk hxuu hxtt hxbb hxqq
      have BR2 := hid (blk_keep BR.out HX2.out (fun h => by omega))
      have zV := HX2.out.size
      have lB := blk_lt HB.out
      have lR := blk_lt BR2.out
      go_upto_region 5 with fail
      generalize hW : World.alloc V _ = W11
      have KS : Hd (Keeps (fun _ => False) V W11) := hid (by rw [← hW]; exact (Keeps.alloc (Keeps.refl (fun _ => False) V) _))
      have BR2' : Hd (Blk W11 w.heap.size #[(.int .i64 nx), (.slice (some ⟨bx, ox, none⟩) n fc), (.bool lk), (.int .u64 (lk1 : Int)), (.int .i64 li)] 35) := hid (by rw [← hW]; exact (blk_alloc BR2.out _))
      have HB' : Hd (Blk W11 W1.heap.size #[(.int .i64 nx), (.int .i64 hh), (.int .i64 li), (.bool lk)] 50) := hid (by rw [← hW]; exact (blk_alloc HB.out _))
      have BF : Hd (Blk W11 V.heap.size #[(.int .i64 xq), (.int .i64 xk), (.bool xu), (.slice ad xb cd), (.int .u64 (xt : Int))] 25) := hid (by rw [← hW]; exact (blk_new _ _ _))
      clear BR2 HB
      have BR2 := BR2'
      clear BR2'
      have HB := HB'
      clear HB'
      have HK : Hd (Keeps (fun _ => False) V W11) := hid KS.out
      have z_W11 : V.heap.size + 1 ≤ W11.heap.size := by rw [← hW]; simp
      clear hW KS
      clear i0 i1 i2 i3 i4
      have o_BR2_0 : W11.cell? ⟨w.heap.size, 0, none⟩ = some ((.int .i64 nx)) := blk_cell BR2.out 0
      have o_BF_0 : W11.cell? ⟨V.heap.size, 0, none⟩ = some ((.int .i64 xq)) := blk_cell BF.out 0
      have o_HB_1 : W11.cell? ⟨W1.heap.size, 1, none⟩ = some ((.int .i64 hh)) := blk_cell HB.out 1
      have f_HB_1 : W11.frozen? ⟨W1.heap.size, 1, none⟩ = false := blk_free HB.out 1
      have hd0 : ¬ (xq - nx - 1 < 0) := by omega
      have hd1 : (0 : Int) ≤ xq - nx - 1 := by omega
      go_region
      go_wp2_with fail
      have hst := HST.out
      unfold putI at hst
      rw [hst]
      go_roundw
      case rel => exact ⟨k + 1, by first | rfl | go_num, by omega, hid (by rw [HH2.out]; exact blk_drew (blk_set HB.out 1 _)), hid (Keeps.drew (Keeps.setCell (HX2.out.trans (HK.out.mono (fun _ _ h => h.elim))) (.inl rfl) _))⟩
      case measure => simp [intOf]; omega
    · have hkn : k = n := by omega
      have q1 : ¬ ((k : Int) < n) := by omega
      have HT : Hd (fs.take k = fs) := hid (List.take_of_length_le (by rw [HN.out, hkn]; exact Nat.le_refl _))
      rw [HT.out, HHH.out] at HB
      subst hkn
      have BX := hid (blk_keep BT.out HX2.out (fun h => by omega))
      have HK2 : Hd (Keeps (fun _ => False) w V) := hid (HK.out.trans' HX2.out (fun b hb h => by omega))
      have o0 : V.cell? ⟨W1.heap.size, 0, none⟩ = some ((.int .i64 nx)) := blk_cell HB.out 0
      have o1 : V.cell? ⟨W1.heap.size, 1, none⟩ = some ((.int .i64 HH)) := blk_cell HB.out 1
      have o2 : V.cell? ⟨W1.heap.size, 2, none⟩ = some ((.int .i64 li)) := blk_cell HB.out 2
      have o3 : V.cell? ⟨W1.heap.size, 3, none⟩ = some ((.bool lk)) := blk_cell HB.out 3
      have b0 : V.cell? ⟨b_BT, 0, none⟩ = some ((.int .i64 0)) := blk_cell BX.out 0
      have b1 : V.cell? ⟨b_BT, 1, none⟩ = some ((.int .i64 0)) := blk_cell BX.out 1
      have b2 : V.cell? ⟨b_BT, 2, none⟩ = some ((.int .i64 0)) := blk_cell BX.out 2
      have b3 : V.cell? ⟨b_BT, 3, none⟩ = some ((.bool false)) := blk_cell BX.out 3
      have v0 : V.frozen? ⟨b_BT, 0, none⟩ = false := blk_free BX.out 0
      have v1 : V.frozen? ⟨b_BT, 1, none⟩ = false := blk_free BX.out 1
      have v2 : V.frozen? ⟨b_BT, 2, none⟩ = false := blk_free BX.out 2
      have v3 : V.frozen? ⟨b_BT, 3, none⟩ = false := blk_free BX.out 3
      go_wp2
      clear o0 o1 o2 o3 b0 b1 b2 b3 v0 v1 v2 v3
      obtain ⟨HV2, B3⟩ := fin4 HK2.out (show w.heap.size ≤ b_BT by omega) BX.out (.int .i64 nx) (.int .i64 HH) (.int .i64 li) (.bool lk)
      have r0 := blk_cell B3 0
      have r1 := blk_cell B3 1
      have r2 := blk_cell B3 2
      have r3 := blk_cell B3 3
      refine bodyPost_ret (v := .agg #[(.int .i64 nx), (.int .i64 HH), (.int .i64 li), (.bool lk)]) (by simp [results, Tryd.results28, go_sem, r0, r1, r2, r3]) rfl ?_
      exact ⟨rfl, HV2⟩
end Go.Proofs.YthoikljmokkchaaDoor
