/- Frame: Missing. -/
import Derived.Test.YthoikljmokkchaaDoorFrL
namespace Go.Proofs.YthoikljmokkchaaDoor
open Go.RowKit Go.Shelf
def hasI (nx ha q : Int) : Bool := decide (nx < q) && decide (bits BinOp.and .i64 (ha / 2 ^ ((q - nx).toNat - 1)) 1 = 1)
def misI (nx ha f : Int) : Nat → List Int
  | 0 => []
  | k + 1 => misI nx ha f k ++ (if hasI nx ha (f + (k : Int)) then [] else [f + (k : Int)])
theorem misI_len (nx ha f : Int) (k : Nat) : (misI nx ha f k).length ≤ k := by
  induction k with
  | zero => exact Nat.le_refl _
  | succ k ih => unfold misI; rw [List.length_append]; split <;> simp <;> omega
theorem misI_no {nx ha f : Int} {k : Nat} (h : hasI nx ha (f + (k : Int)) = false) : misI nx ha f (k + 1) = misI nx ha f k ++ [f + (k : Int)] := by
  rw [misI, h]; rfl
theorem misI_yes {nx ha f : Int} {k : Nat} (h : hasI nx ha (f + (k : Int)) = true) : misI nx ha f (k + 1) = misI nx ha f k := by
  rw [misI, h]; exact List.append_nil _
set_option maxRecDepth 100000 in
set_option maxHeartbeats 4000000 in
theorem Missing_any (n : Nat) (ba : Option Addr) (bc : Nat) (ac : Int) (l : Ld) (nx ha ky : Int) (lk : Bool) (w : World) (hn : n ≤ 100000) (hsq : (n : Int) ≤ nx + 60 ∨ ac ≤ nx + 40) (hnx : 0 ≤ nx) (hnx2 : nx ≤ 1000000000) (hac : 0 ≤ ac) (hac2 : ac ≤ 1000000000) (hha : 0 ≤ ha) (hha2 : ha ≤ 1000000000000) :
    Calls Tryd.prog 48 #[.agg #[.slice ba n bc, .int .i64 ac, .int .u64 (l.k : Int), .int .i64 l.i], .agg #[.int .i64 nx, .int .i64 ha, .int .i64 ky, .bool lk]] w fun e w' => ∃ a m c, e = .returned (.slice a m c) ∧ Own (fun b => w.heap.size ≤ b) w' 3 1 (.slice a m c) m (i64s (if lk then [] else misI nx ha (max ac nx) (min (max ac nx + 16) (n : Int) - max ac nx).toNat)) ∧ m = (if lk then [] else misI nx ha (max ac nx) (min (max ac nx + 16) (n : Int) - max ac nx).toNat).length ∧ Keeps (fun _ => False) w w' := by
  obtain ⟨lk1, li⟩ := l
  simp only [] at *
  obtain ⟨i0, hi, hz0, hz1, hz2⟩ := parts1 infoI64h
  go_enter Tryd.func48, Tryd.ntmps48
  go_upto_region 2 with fail
  generalize hW : World.alloc (World.alloc w _) _ = W1
  have KS : Hd (Keeps (fun _ => False) w W1) := hid (by rw [← hW]; exact (Keeps.alloc (Keeps.alloc (Keeps.refl (fun _ => False) w) _) _))
  have BS : Hd (Blk W1 w.heap.size #[(.slice ba n bc), (.int .i64 ac), (.int .u64 (lk1 : Int)), (.int .i64 li)] 57) := hid (by rw [← hW]; exact (blk_alloc (blk_new _ _ _) _))
  have BR : Hd (Blk W1 (w.heap.size + 1) #[(.int .i64 nx), (.int .i64 ha), (.int .i64 ky), (.bool lk)] 50) := hid (by rw [← hW]; exact (blk_new' _ _ _ _ (by simp)))
  have HK : Hd (Keeps (fun _ => False) w W1) := hid KS.out
  have z_W1 : w.heap.size + 2 ≤ W1.heap.size := by rw [← hW]; simp
  clear hW KS
  generalize hb_BR : w.heap.size + 1 = b_BR at *
  have o_BR_3 : W1.cell? ⟨b_BR, 3, none⟩ = some ((.bool lk)) := blk_cell BR.out 3
  cases lk with
  | true =>
    go_wp2
    go_ret
    exact ⟨none, 0, 0, rfl, Own.nil _ _ _ _, rfl, HK.out⟩
  | false =>
    have o_BS_1 : W1.cell? ⟨w.heap.size, 1, none⟩ = some ((.int .i64 ac)) := blk_cell BS.out 1
    have o_BR_0 : W1.cell? ⟨b_BR, 0, none⟩ = some ((.int .i64 nx)) := blk_cell BR.out 0
    go_upto_region 5 with fail
    obtain ⟨fm, hfm⟩ : ∃ fm, (if ac < nx then nx else ac) = fm := ⟨_, rfl⟩
    rw [hfm]
    have hfx : max ac nx = fm := by rw [← hfm]; split <;> omega
    have HFX := hid hfx
    have hf0 : 0 ≤ fm := by omega
    have hf1 : fm ≤ 1000000000 := by omega
    have hf2 : nx ≤ fm := by omega
    have hf3 : (n : Int) ≤ nx + 60 ∨ fm ≤ nx + 40 := by omega
    clear hfm hfx hsq
    obtain ⟨st, hst⟩ : ∃ st, (min (fm + 16) (n : Int) - fm).toNat = st := ⟨_, rfl⟩
    have HST := hid hst
    have hmc : (n : Int) < fm + 16 ∨ fm + 16 ≤ (n : Int) := by omega
    rcases hmc with hmc | hmc
    clear o_BR_3 o_BS_1 o_BR_0
    · have hs1 : ((n : Int) - fm).toNat = st := by omega
      have hs2 : fm + 16 ≤ 1000000100 := by omega
      clear hst
      go_wp2_with fail
      go_loopw [5, 7] (fun lv sv wr => ∃ (k m : Nat) (a : Option Addr) (c : Nat), lv = .slice a m c ∧ sv = .int .i64 (fm + (k : Int)) ∧ k ≤ st ∧ m = (misI nx ha fm k).length ∧ Hd (Own (fun b => W1.heap.size ≤ b) wr 3 1 (.slice a m c) m (i64s (misI nx ha fm k))) ∧ Hd (Keeps (fun _ => False) W1 wr)) (fun _ sv _ => (fm + (st : Int) - intOf sv).toNat)
      case atStart => exact ⟨0, 0, none, 0, rfl, by first | rfl | go_num | simp, Nat.zero_le _, rfl, hid (Own.nil _ _ _ _), hid (Keeps.refl _ _)⟩
      case round =>
        obtain ⟨V, rfl⟩ : ∃ V, V = wr := ⟨_, rfl⟩
        obtain ⟨k, m, a, c, rfl, rfl, hk, hm, HO, HX2⟩ := hrel
        have zV := HX2.out.size
        have HM := hid hm
        have hmk : m ≤ k := by rw [hm]; exact misI_len _ _ _ _
        clear hm
        have p0 : V.cell? ⟨w.heap.size, 0, none⟩ = some (.slice ba n bc) := blk_cell (blk_keep BS.out HX2.out (fun h => h)) 0
        have p2 : V.cell? ⟨b_BR, 0, none⟩ = some (.int .i64 nx) := blk_cell (blk_keep BR.out HX2.out (fun h => h)) 0
        have p3 : V.cell? ⟨b_BR, 1, none⟩ = some (.int .i64 ha) := blk_cell (blk_keep BR.out HX2.out (fun h => h)) 1
        by_cases hlt : k < st
        · have hl2 : fm + (k : Int) < (n : Int) := by omega
          by_cases hg : nx < fm + (k : Int)
          · have hd0 : ¬ (fm + (k : Int) - nx - 1 < 0) := by omega
            have hd1 : (0 : Int) ≤ fm + (k : Int) - nx - 1 := by omega
            have hd2 : fm + (k : Int) - nx - 1 ≤ 64 := by omega
            cases he : (bits BinOp.and .i64 (ha / 2 ^ ((fm + (k : Int) - nx).toNat - 1)) 1 == 1)
            · have HN : Hd (misI nx ha fm (k + 1) = misI nx ha fm k ++ [fm + (k : Int)]) := hid (misI_no (by unfold hasI; simp only [beq_eq_false_iff_ne, ne_eq] at he; simp [hg, he]))
              go_wp2_with (at_builtin; refine wpList_append_row rfl _ _ 61 rfl 3 i0 (.int .i64 0) 1 8 Tryd.underlying61 hi hz0 hz1 hz2 rfl (by decide) _ (fun _ => True) _ _ _ _ rfl (HO.out.alloc _) 1 _ rfl (src_one _ _ trivial) (by intro u hu; simp at hu; subst hu; rfl) ?h1 ?h2 ?_)
              case h1 => simp [maxLen]; omega
              case h2 => omega
              intro a1 cap1 w2 hown' hgrow; try intro _
              have H5 := hid hown'
              have HK5 : Hd (Keeps (fun b => W1.heap.size ≤ b) V w2) := hid ((keeps_alloc _ V _).trans hgrow)
              clear hown' hgrow
              go_wp2
              go_roundw
              case rel =>
                refine ⟨k + 1, m + 1, a1, cap1, by first | rfl | go_num, by first | rfl | go_num, by omega, by rw [HN.out, List.length_append, ← HM.out]; rfl, hid ?_, hid (HX2.out.trans' HK5.out (fun i hi h => by omega))⟩
                have := H5.out.mono (K' := fun b => W1.heap.size ≤ b) (fun b _ hb => by rcases hb with hb | hb <;> omega)
                rw [HN.out, i64s_append]; exact this
              case measure => simp [intOf]; omega
            · have HN : Hd (misI nx ha fm (k + 1) = misI nx ha fm k) := hid (misI_yes (by unfold hasI; simp only [beq_iff_eq] at he; simp [hg, he]))
              go_wp2_with fail
              go_roundw
              case rel => exact ⟨k + 1, m, a, c, rfl, by first | rfl | go_num, by omega, by rw [HN.out]; exact HM.out, hid (by rw [HN.out]; exact HO.out), HX2⟩
              case measure => simp [intOf]; omega
          · have HN : Hd (misI nx ha fm (k + 1) = misI nx ha fm k ++ [fm + (k : Int)]) := hid (misI_no (by unfold hasI; simp [hg]))
            go_wp2_with (at_builtin; refine wpList_append_row rfl _ _ 61 rfl 3 i0 (.int .i64 0) 1 8 Tryd.underlying61 hi hz0 hz1 hz2 rfl (by decide) _ (fun _ => True) _ _ _ _ rfl (HO.out.alloc _) 1 _ rfl (src_one _ _ trivial) (by intro u hu; simp at hu; subst hu; rfl) ?h1 ?h2 ?_)
            case h1 => simp [maxLen]; omega
            case h2 => omega
            intro a1 cap1 w2 hown' hgrow; try intro _
            have H5 := hid hown'
            have HK5 : Hd (Keeps (fun b => W1.heap.size ≤ b) V w2) := hid ((keeps_alloc _ V _).trans hgrow)
            clear hown' hgrow
            go_wp2
            go_roundw
            case rel =>
              refine ⟨k + 1, m + 1, a1, cap1, by first | rfl | go_num, by first | rfl | go_num, by omega, by rw [HN.out, List.length_append, ← HM.out]; rfl, hid ?_, hid (HX2.out.trans' HK5.out (fun i hi h => by omega))⟩
              have := H5.out.mono (K' := fun b => W1.heap.size ≤ b) (fun b _ hb => by rcases hb with hb | hb <;> omega)
              rw [HN.out, i64s_append]; exact this
            case measure => simp [intOf]; omega
        · have hkn : k = st := by omega
          have hl2 : ¬ (fm + (k : Int) < (n : Int)) := by omega
          go_wp2
          go_ret
          rw [HFX.out, HST.out, ← hkn]
          exact ⟨a, m, c, rfl, HO.out.mono (fun b _ h => by have := HK.out.size; omega), HM.out, HK.out.trans HX2.out⟩
    · have hs1 : ((fm + 16) - fm).toNat = st := by omega
      have hs2 : fm + 16 ≤ 1000000100 := by omega
      clear hst
      go_wp2_with fail
      go_loopw [5, 7] (fun lv sv wr => ∃ (k m : Nat) (a : Option Addr) (c : Nat), lv = .slice a m c ∧ sv = .int .i64 (fm + (k : Int)) ∧ k ≤ st ∧ m = (misI nx ha fm k).length ∧ Hd (Own (fun b => W1.heap.size ≤ b) wr 3 1 (.slice a m c) m (i64s (misI nx ha fm k))) ∧ Hd (Keeps (fun _ => False) W1 wr)) (fun _ sv _ => (fm + (st : Int) - intOf sv).toNat)
      case atStart => exact ⟨0, 0, none, 0, rfl, by first | rfl | go_num | simp, Nat.zero_le _, rfl, hid (Own.nil _ _ _ _), hid (Keeps.refl _ _)⟩
      case round =>
        obtain ⟨V, rfl⟩ : ∃ V, V = wr := ⟨_, rfl⟩
        obtain ⟨k, m, a, c, rfl, rfl, hk, hm, HO, HX2⟩ := hrel
        have zV := HX2.out.size
        have HM := hid hm
        have hmk : m ≤ k := by rw [hm]; exact misI_len _ _ _ _
        clear hm
        have p0 : V.cell? ⟨w.heap.size, 0, none⟩ = some (.slice ba n bc) := blk_cell (blk_keep BS.out HX2.out (fun h => h)) 0
        have p2 : V.cell? ⟨b_BR, 0, none⟩ = some (.int .i64 nx) := blk_cell (blk_keep BR.out HX2.out (fun h => h)) 0
        have p3 : V.cell? ⟨b_BR, 1, none⟩ = some (.int .i64 ha) := blk_cell (blk_keep BR.out HX2.out (fun h => h)) 1
        by_cases hlt : k < st
        · have hl2 : fm + (k : Int) < (fm + 16) := by omega
          by_cases hg : nx < fm + (k : Int)
          · have hd0 : ¬ (fm + (k : Int) - nx - 1 < 0) := by omega
            have hd1 : (0 : Int) ≤ fm + (k : Int) - nx - 1 := by omega
            have hd2 : fm + (k : Int) - nx - 1 ≤ 64 := by omega
            cases he : (bits BinOp.and .i64 (ha / 2 ^ ((fm + (k : Int) - nx).toNat - 1)) 1 == 1)
            · have HN : Hd (misI nx ha fm (k + 1) = misI nx ha fm k ++ [fm + (k : Int)]) := hid (misI_no (by unfold hasI; simp only [beq_eq_false_iff_ne, ne_eq] at he; simp [hg, he]))
              go_wp2_with (at_builtin; refine wpList_append_row rfl _ _ 61 rfl 3 i0 (.int .i64 0) 1 8 Tryd.underlying61 hi hz0 hz1 hz2 rfl (by decide) _ (fun _ => True) _ _ _ _ rfl (HO.out.alloc _) 1 _ rfl (src_one _ _ trivial) (by intro u hu; simp at hu; subst hu; rfl) ?h1 ?h2 ?_)
              case h1 => simp [maxLen]; omega
              case h2 => omega
              intro a1 cap1 w2 hown' hgrow; try intro _
              have H5 := hid hown'
              have HK5 : Hd (Keeps (fun b => W1.heap.size ≤ b) V w2) := hid ((keeps_alloc _ V _).trans hgrow)
              clear hown' hgrow
              go_wp2
              go_roundw
              case rel =>
                refine ⟨k + 1, m + 1, a1, cap1, by first | rfl | go_num, by first | rfl | go_num, by omega, by rw [HN.out, List.length_append, ← HM.out]; rfl, hid ?_, hid (HX2.out.trans' HK5.out (fun i hi h => by omega))⟩
                have := H5.out.mono (K' := fun b => W1.heap.size ≤ b) (fun b _ hb => by rcases hb with hb | hb <;> omega)
                rw [HN.out, i64s_append]; exact this
              case measure => simp [intOf]; omega
            · have HN : Hd (misI nx ha fm (k + 1) = misI nx ha fm k) := hid (misI_yes (by unfold hasI; simp only [beq_iff_eq] at he; simp [hg, he]))
              go_wp2_with fail
              go_roundw
              case rel => exact ⟨k + 1, m, a, c, rfl, by first | rfl | go_num, by omega, by rw [HN.out]; exact HM.out, hid (by rw [HN.out]; exact HO.out), HX2⟩
              case measure => simp [intOf]; omega
          · have HN : Hd (misI nx ha fm (k + 1) = misI nx ha fm k ++ [fm + (k : Int)]) := hid (misI_no (by unfold hasI; simp [hg]))
            go_wp2_with (at_builtin; refine wpList_append_row rfl _ _ 61 rfl 3 i0 (.int .i64 0) 1 8 Tryd.underlying61 hi hz0 hz1 hz2 rfl (by decide) _ (fun _ => True) _ _ _ _ rfl (HO.out.alloc _) 1 _ rfl (src_one _ _ trivial) (by intro u hu; simp at hu; subst hu; rfl) ?h1 ?h2 ?_)
            case h1 => simp [maxLen]; omega
            case h2 => omega
            intro a1 cap1 w2 hown' hgrow; try intro _
            have H5 := hid hown'
            have HK5 : Hd (Keeps (fun b => W1.heap.size ≤ b) V w2) := hid ((keeps_alloc _ V _).trans hgrow)
            clear hown' hgrow
            go_wp2
            go_roundw
            case rel =>
              refine ⟨k + 1, m + 1, a1, cap1, by first | rfl | go_num, by first | rfl | go_num, by omega, by rw [HN.out, List.length_append, ← HM.out]; rfl, hid ?_, hid (HX2.out.trans' HK5.out (fun i hi h => by omega))⟩
              have := H5.out.mono (K' := fun b => W1.heap.size ≤ b) (fun b _ hb => by rcases hb with hb | hb <;> omega)
              rw [HN.out, i64s_append]; exact this
            case measure => simp [intOf]; omega
        · have hkn : k = st := by omega
          have hl2 : ¬ (fm + (k : Int) < (fm + 16)) := by omega
          go_wp2
          go_ret
          rw [HFX.out, HST.out, ← hkn]
          exact ⟨a, m, c, rfl, HO.out.mono (fun b _ h => by have := HK.out.size; omega), HM.out, HK.out.trans HX2.out⟩
end Go.Proofs.YthoikljmokkchaaDoor
