/- Frame: Confirm. -/
import Derived.Test.YthoikljmokkchaaDoorFrJ
namespace Go.Proofs.YthoikljmokkchaaDoor
open Go.RowKit
def confL (l : Ld) (ky : Int) : Ld := ⟨iterN (ky - l.i).toNat l.k, l.i + ((ky - l.i).toNat : Int)⟩
def ackN (ac nx : Int) (n : Nat) : Int := max ac (min nx n)
theorem confL_ok {l : Ld} (h : l.ok) {ky : Int} (hk : ky ≤ 1000000000000) : (confL l ky).ok := ⟨iterN_lt h.k _, by have := h.i0; show 0 ≤ l.i + _; omega, by have := h.i1; show l.i + _ ≤ _; omega⟩
def ConfR (w : World) (bs : List (List Nat)) (ac : Int) (l : Ld) (e : Ending) (w' : World) : Prop := ∃ a2 c2, e = .returned (.agg #[.slice a2 bs.length c2, .int .i64 ac, .int .u64 (l.k : Int), .int .i64 l.i]) ∧ Bds (fun b => w.heap.size ≤ b) w' (.slice a2 bs.length c2) bs ∧ Keeps (fun _ => False) w w'
set_option maxRecDepth 100000 in
set_option maxHeartbeats 4000000 in
theorem Confirm_any (bs : List (List Nat)) (ba : Option Addr) (bc : Nat) (ac : Int) (l : Ld) (nx ha ky : Int) (lk : Bool) (K : Nat → Prop) (w : World) (hv : Bds K w (.slice ba bs.length bc) bs) (hn : bs.length ≤ 100000) (hx : ∀ x ∈ bs, x.length ≤ 512) (hl : l.ok) (hky : ky ≤ 1000000000) :
    Calls Tryd.prog 44 #[.agg #[.slice ba bs.length bc, .int .i64 ac, .int .u64 (l.k : Int), .int .i64 l.i], .agg #[.int .i64 nx, .int .i64 ha, .int .i64 ky, .bool lk]] w fun e w' => ConfR w bs (ackN ac nx bs.length) (confL l ky) e w' := by
  have HV := hid (hv.mono (K' := fun b => b < w.heap.size) (fun b h _ => h)); have HX := hid hx
  have HLO := hid hl
  clear hv hx hl
  obtain ⟨n, hnn⟩ : ∃ n, bs.length = n := ⟨_, rfl⟩
  have HN := hid hnn
  rw [hnn] at HV hn ⊢
  clear hnn
  obtain ⟨k, i⟩ := l
  have hi0 := HLO.out.i0; have hi1 := HLO.out.i1
  simp only [] at *
  obtain ⟨st, hst⟩ : ∃ st, (ky - i).toNat = st := ⟨_, rfl⟩
  have HCF : Hd (confL ⟨k, i⟩ ky = ⟨iterN st k, i + (st : Int)⟩) := hid (by unfold confL; simp only []; rw [hst])
  have hst1 : ky ≤ i + (st : Int) := by omega
  have hst2 : st = 0 ∨ i + (st : Int) = ky := by omega
  have hst3 : i + (st : Int) ≤ 1000000000000 := by omega
  have HAC : Hd (ackN ac nx n = max ac (min nx n)) := hid rfl
  obtain ⟨A, hA⟩ : ∃ A, ackN ac nx n = A := ⟨_, rfl⟩
  rw [hA] at HAC ⊢
  clear hA hst
  go_enter Tryd.func44, Tryd.ntmps44
  go_upto_region 1 with fail
  generalize hW : World.alloc (World.alloc (World.alloc w _) _) _ = W1
  have KS : Hd (Keeps (fun _ => False) w W1) := hid (by rw [← hW]; exact (Keeps.alloc (Keeps.alloc (Keeps.alloc (Keeps.refl (fun _ => False) w) _) _) _))
  have HV' : Hd (Bds (fun b => b < w.heap.size) W1 (.slice ba n bc) bs) := hid (HV.out.keep KS.out (fun _ _ _ h => h))
  have BS : Hd (Blk W1 w.heap.size #[(.slice ba n bc), (.int .i64 ac), (.int .u64 (k : Int)), (.int .i64 i)] 57) := hid (by rw [← hW]; exact (blk_alloc (blk_alloc (blk_new _ _ _) _) _))
  have BP : Hd (Blk W1 (w.heap.size + 1) #[(.int .i64 nx), (.int .i64 ha), (.int .i64 ky), (.bool lk)] 50) := hid (by rw [← hW]; exact (blk_alloc (blk_new' _ _ _ _ (by simp)) _))
  have BR : Hd (Blk W1 (w.heap.size + 1 + 1) #[(.slice none 0 0), (.int .i64 0), (.int .u64 0), (.int .i64 0)] 57) := hid (by rw [← hW]; exact (blk_new' _ _ _ _ (by simp)))
  clear HV
  have HV := HV'
  clear HV'
  have HK : Hd (Keeps (fun _ => False) w W1) := hid KS.out
  have z_W1 : w.heap.size + 3 ≤ W1.heap.size := by rw [← hW]; simp
  clear hW KS
  generalize hb_BR : w.heap.size + 1 + 1 = b_BR at *
  generalize hb_BP : w.heap.size + 1 = b_BP at *
  have o_BS_0 : W1.cell? ⟨w.heap.size, 0, none⟩ = some ((.slice ba n bc)) := blk_cell BS.out 0
  go_wp2_with fail
  refine (cloned_any _ _ bs _ HV.out (by rw [HN.out]; omega) (fun x hx => by have := HX.out x hx; omega)).mono ?_
  rw [HN.out]
  rintro e W2 ⟨a2, c2, rfl, hp, hk⟩
  have HP := hid hp
  clear hp
  clear o_BS_0
  have HV' : Hd (Bds (fun b => b < w.heap.size) W2 (.slice ba n bc) bs) := hid (HV.out.keep hk (fun _ _ _ h => h))
  have BS' : Hd (Blk W2 w.heap.size #[(.slice ba n bc), (.int .i64 ac), (.int .u64 (k : Int)), (.int .i64 i)] 57) := hid (blk_keep BS.out hk (fun h => h))
  have BP' : Hd (Blk W2 b_BP #[(.int .i64 nx), (.int .i64 ha), (.int .i64 ky), (.bool lk)] 50) := hid (blk_keep BP.out hk (fun h => h))
  have BR' : Hd (Blk W2 b_BR #[(.slice none 0 0), (.int .i64 0), (.int .u64 0), (.int .i64 0)] 57) := hid (blk_keep BR.out hk (fun h => h))
  clear HV BS BP BR
  have HV := HV'
  clear HV'
  have BS := BS'
  clear BS'
  have BP := BP'
  clear BP'
  have BR := BR'
  clear BR'
  have HK' : Hd (Keeps (fun _ => False) w W2) := hid (HK.out.trans hk)
  clear HK
  have HK := HK'
  clear HK'
  have z_W2 := hk.size
  clear hk
  clear HV
  have o_BS_0 : W2.cell? ⟨w.heap.size, 0, none⟩ = some ((.slice ba n bc)) := blk_cell BS.out 0
  have f_BS_0 : W2.frozen? ⟨w.heap.size, 0, none⟩ = false := blk_free BS.out 0
  go_upto_region 2 with fail
  clear o_BS_0 f_BS_0
  generalize hW : World.setCell W2 _ _ = W3
  have KS : Hd (Keeps (fun b => b = w.heap.size) W2 W3) := hid (by rw [← hW]; exact (Keeps.setCell (S := fun b => b = w.heap.size) (Keeps.refl (fun b => b = w.heap.size) W2) (.inl rfl) _))
  have BS' : Hd (Blk W3 w.heap.size #[(.slice a2 n c2), (.int .i64 ac), (.int .u64 (k : Int)), (.int .i64 i)] 57) := hid (by rw [← hW]; exact (blk_set BS.out 0 _))
  have BP' : Hd (Blk W3 b_BP #[(.int .i64 nx), (.int .i64 ha), (.int .i64 ky), (.bool lk)] 50) := hid (by rw [← hW]; exact (blk_other BP.out (by omega) _ _))
  have BR' : Hd (Blk W3 b_BR #[(.slice none 0 0), (.int .i64 0), (.int .u64 0), (.int .i64 0)] 57) := hid (by rw [← hW]; exact (blk_other BR.out (by omega) _ _))
  have HP' : Hd (BdP (fun b => W1.heap.size ≤ b) W1.heap.size W3 (.slice a2 n c2) bs) := hid (HP.out.keep KS.out (fun b _ h1 h2 => by omega))
  clear BS BP BR HP
  have BS := BS'
  clear BS'
  have BP := BP'
  clear BP'
  have BR := BR'
  clear BR'
  have HP := HP'
  clear HP'
  have HK' : Hd (Keeps (fun _ => False) w W3) := hid (HK.out.trans' KS.out (fun i hi h => by omega))
  clear HK
  have HK := HK'
  clear HK'
  have z_W3 : W2.heap.size + 0 ≤ W3.heap.size := by rw [← hW]; simp
  clear hW KS
  have hc1 : nx ≤ (n : Int) ∨ (n : Int) < nx := by omega
  rcases hc1 with hc1 | hc1
  · have hmn : min nx (n : Int) = nx := by omega
    rcases Int.lt_or_le ac nx with hc2 | hc2
    · have HAV : Hd (A = nx) := hid (by rw [HAC.out, hmn]; omega)
      clear hmn HAC
      have o_BS_0 : W3.cell? ⟨w.heap.size, 0, none⟩ = some ((.slice a2 n c2)) := blk_cell BS.out 0
      have o_BS_1 : W3.cell? ⟨w.heap.size, 1, none⟩ = some ((.int .i64 ac)) := blk_cell BS.out 1
      have o_BP_0 : W3.cell? ⟨b_BP, 0, none⟩ = some ((.int .i64 nx)) := blk_cell BP.out 0
      have f_BS_1 : W3.frozen? ⟨w.heap.size, 1, none⟩ = false := blk_free BS.out 1
      go_upto_region 3 with fail
      clear o_BS_0 o_BS_1 o_BP_0 f_BS_1
      clear hc1 hc2
      generalize hW : World.setCell W3 _ _ = W4
      have KS : Hd (Keeps (fun b => b = w.heap.size) W3 W4) := hid (by rw [← hW]; exact (Keeps.setCell (S := fun b => b = w.heap.size) (Keeps.refl (fun b => b = w.heap.size) W3) (.inl rfl) _))
      have BS' : Hd (Blk W4 w.heap.size #[(.slice a2 n c2), (.int .i64 nx), (.int .u64 (k : Int)), (.int .i64 i)] 57) := hid (by rw [← hW]; exact (blk_set BS.out 1 _))
      have BP' : Hd (Blk W4 b_BP #[(.int .i64 nx), (.int .i64 ha), (.int .i64 ky), (.bool lk)] 50) := hid (by rw [← hW]; exact (blk_other BP.out (by omega) _ _))
      have BR' : Hd (Blk W4 b_BR #[(.slice none 0 0), (.int .i64 0), (.int .u64 0), (.int .i64 0)] 57) := hid (by rw [← hW]; exact (blk_other BR.out (by omega) _ _))
      have HP' : Hd (BdP (fun b => W1.heap.size ≤ b) W1.heap.size W4 (.slice a2 n c2) bs) := hid (HP.out.keep KS.out (fun b _ h1 h2 => by omega))
      clear BS BP BR HP
      have BS := BS'
      clear BS'
      have BP := BP'
      clear BP'
      have BR := BR'
      clear BR'
      have HP := HP'
      clear HP'
      have HK' : Hd (Keeps (fun _ => False) w W4) := hid (HK.out.trans' KS.out (fun i hi h => by omega))
      clear HK
      have HK := HK'
      clear HK'
      have z_W4 : W3.heap.size + 0 ≤ W4.heap.size := by rw [← hW]; simp
      clear hW KS
      go_wp2_with fail
      go_loopw [] (fun wr => ∃ j : Nat, j ≤ st ∧ Hd (Blk wr w.heap.size #[.slice a2 n c2, .int .i64 nx, .int .u64 ((iterN j k : Nat) : Int), .int .i64 (i + (j : Int))] 57) ∧ Hd (Keeps (fun b => b = w.heap.size) W4 wr)) (fun wr => match wr.cell? ⟨w.heap.size, 3, none⟩ with | some (.int _ z) => (ky - z).toNat | _ => 0)
      case atStart => exact ⟨0, Nat.zero_le _, hid (by have h := BS.out; simpa [iterN] using h), hid (Keeps.refl _ _)⟩
      case round =>
        obtain ⟨X, rfl⟩ : ∃ X, X = wr := ⟨_, rfl⟩
        obtain ⟨j, hj, HB, HX2⟩ := hrel
        have p2 : X.cell? ⟨b_BP, 2, none⟩ = some (.int .i64 ky) := blk_cell (blk_keep BP.out HX2.out (fun h => by omega)) 2
        have p3 : X.cell? ⟨w.heap.size, 3, none⟩ = some (.int .i64 (i + (j : Int))) := blk_cell HB.out 3
        by_cases hlt : i + (j : Int) < ky
        · have hjs : j < st := by omega
          have HL := hid (iterN_lt HLO.out.k j)
          have HS : Hd (iterN (j + 1) k = stepN (iterN j k)) := hid rfl
          have o2 : X.cell? ⟨w.heap.size, 2, none⟩ = some (.int .u64 ((iterN j k : Nat) : Int)) := blk_cell HB.out 2
          have f2 : X.frozen? ⟨w.heap.size, 2, none⟩ = false := blk_free HB.out 2
          have f3 : X.frozen? ⟨w.heap.size, 3, none⟩ = false := blk_free HB.out 3
          generalize iterN j k = x at *
          have hcall := LSign_any ⟨x, i + (j : Int)⟩ (fun _ => True) (.slice none 0 0) [] X ⟨HL.out, by show 0 ≤ i + (j : Int); omega, by show i + (j : Int) ≤ _; omega⟩ (Sl.nil _ _) (by simp) (by simp)
          simp only [← HS.out] at hcall
          obtain ⟨y, hy⟩ : ∃ y, iterN (j + 1) k = y := ⟨_, rfl⟩
          rw [hy] at hcall
          have HY := hid hy
          have HC := hid hcall
          clear hcall hy
          go_wp2_with fail
          refine (HC.out).mono ?_
          rintro e X2 ⟨rfl, hk⟩
          clear HC
          have HB2 := hid (blk_keep HB.out hk (fun h => h))
          have g2 : X2.cell? ⟨w.heap.size, 2, none⟩ = some (.int .u64 (x : Int)) := blk_cell HB2.out 2
          have g3 : X2.cell? ⟨w.heap.size, 3, none⟩ = some (.int .i64 (i + (j : Int))) := blk_cell HB2.out 3
          have h2 : X2.frozen? ⟨w.heap.size, 2, none⟩ = false := blk_free HB2.out 2
          have h3 : X2.frozen? ⟨w.heap.size, 3, none⟩ = false := blk_free HB2.out 3
          have HX3 : Hd (Keeps (fun b => b = w.heap.size) W4 X2) := hid (HX2.out.trans (hk.mono (fun _ _ h => h.elim)))
          clear hk o2 f2 f3
          go_wp2
          go_roundw
          case rel => exact ⟨j + 1, by omega, hid (by have h := blk_set (blk_set HB2.out 2 (.int .u64 (y : Int))) 3 (.int .i64 (i + (j : Int) + 1)); rw [HY.out, show i + ((j + 1 : Nat) : Int) = i + (j : Int) + 1 by omega]; exact h), hid ((HX3.out.setCell (.inl rfl) _).setCell (.inl rfl) _)⟩
          case measure =>
            have e1 := blk_cell (blk_set (blk_set HB2.out 2 (.int .u64 (y : Int))) 3 (.int .i64 (i + (j : Int) + 1))) 3
            rw [show ((X2.setCell ⟨w.heap.size, 2, none⟩ (.int .u64 (y : Int))).setCell ⟨w.heap.size, 3, none⟩ (.int .i64 (i + (j : Int) + 1))).cell? ⟨w.heap.size, 3, none⟩ = some (.int .i64 (i + (j : Int) + 1)) from e1, p3]
            simp only []
            omega
        · have hjs : j = st := by omega
          subst hjs
          have HCX := HCF
          obtain ⟨x, hx⟩ : ∃ x, iterN j k = x := ⟨_, rfl⟩
          rw [hx] at HB HCX
          clear hx
          have HK2 : Hd (Keeps (fun _ => False) w X) := hid (HK.out.trans' HX2.out (fun b hb h => by omega))
          have BX := hid (blk_keep BR.out HX2.out (fun h => by omega))
          have HP2 := hid (HP.out.keep HX2.out (fun b h1 h2 h3 => by rcases h2 with h2 | h2 <;> omega))
          have o0 : X.cell? ⟨w.heap.size, 0, none⟩ = some ((.slice a2 n c2)) := blk_cell HB.out 0
          have o1 : X.cell? ⟨w.heap.size, 1, none⟩ = some ((.int .i64 nx)) := blk_cell HB.out 1
          have o2 : X.cell? ⟨w.heap.size, 2, none⟩ = some ((.int .u64 (x : Int))) := blk_cell HB.out 2
          have b0 : X.cell? ⟨b_BR, 0, none⟩ = some ((.slice none 0 0)) := blk_cell BX.out 0
          have b1 : X.cell? ⟨b_BR, 1, none⟩ = some ((.int .i64 0)) := blk_cell BX.out 1
          have b2 : X.cell? ⟨b_BR, 2, none⟩ = some ((.int .u64 0)) := blk_cell BX.out 2
          have b3 : X.cell? ⟨b_BR, 3, none⟩ = some ((.int .i64 0)) := blk_cell BX.out 3
          have w0 : X.frozen? ⟨b_BR, 0, none⟩ = false := blk_free BX.out 0
          have w1 : X.frozen? ⟨b_BR, 1, none⟩ = false := blk_free BX.out 1
          have w2 : X.frozen? ⟨b_BR, 2, none⟩ = false := blk_free BX.out 2
          have w3 : X.frozen? ⟨b_BR, 3, none⟩ = false := blk_free BX.out 3
          go_wp2
          clear o0 o1 o2 b0 b1 b2 b3 w0 w1 w2 w3
          obtain ⟨HV2, B3⟩ := fin4 HK2.out (show w.heap.size ≤ b_BR by omega) BX.out (.slice a2 n c2) (.int .i64 nx) (.int .u64 (x : Int)) (.int .i64 (i + (j : Int)))
          have r0 := blk_cell B3 0
          have r1 := blk_cell B3 1
          have r2 := blk_cell B3 2
          have r3 := blk_cell B3 3
          refine bodyPost_ret (v := .agg #[(.slice a2 n c2), (.int .i64 nx), (.int .u64 (x : Int)), (.int .i64 (i + (j : Int)))]) (by simp [results, Tryd.results44, go_sem, r0, r1, r2, r3]) rfl ?_
          refine ⟨a2, c2, ?_, ?_, HV2⟩
          · rw [HN.out, HAV.out, HCX.out]
          · rw [HN.out]; exact (HP2.out.bds.keep (keep4 _ b_BR (.slice a2 n c2) (.int .i64 nx) (.int .u64 (x : Int)) (.int .i64 (i + (j : Int)))) (fun b h1 h2 h3 => by rcases h2 with h2 | h2 <;> omega)).mono (fun b _ h => by rcases h with h | h <;> omega)
    · have HAV : Hd (A = ac) := hid (by rw [HAC.out, hmn]; omega)
      clear hmn HAC
      have o_BS_0 : W3.cell? ⟨w.heap.size, 0, none⟩ = some ((.slice a2 n c2)) := blk_cell BS.out 0
      have o_BS_1 : W3.cell? ⟨w.heap.size, 1, none⟩ = some ((.int .i64 ac)) := blk_cell BS.out 1
      have o_BP_0 : W3.cell? ⟨b_BP, 0, none⟩ = some ((.int .i64 nx)) := blk_cell BP.out 0
      have f_BS_1 : W3.frozen? ⟨w.heap.size, 1, none⟩ = false := blk_free BS.out 1
      go_upto_region 3 with fail
      clear o_BS_0 o_BS_1 o_BP_0 f_BS_1
      clear hc1 hc2
      generalize hW : World.setCell W3 _ _ = W4
      have KS : Hd (Keeps (fun b => b = w.heap.size) W3 W4) := hid (by rw [← hW]; exact (Keeps.setCell (S := fun b => b = w.heap.size) (Keeps.refl (fun b => b = w.heap.size) W3) (.inl rfl) _))
      have BS' : Hd (Blk W4 w.heap.size #[(.slice a2 n c2), (.int .i64 ac), (.int .u64 (k : Int)), (.int .i64 i)] 57) := hid (by rw [← hW]; exact (blk_set BS.out 1 _))
      have BP' : Hd (Blk W4 b_BP #[(.int .i64 nx), (.int .i64 ha), (.int .i64 ky), (.bool lk)] 50) := hid (by rw [← hW]; exact (blk_other BP.out (by omega) _ _))
      have BR' : Hd (Blk W4 b_BR #[(.slice none 0 0), (.int .i64 0), (.int .u64 0), (.int .i64 0)] 57) := hid (by rw [← hW]; exact (blk_other BR.out (by omega) _ _))
      have HP' : Hd (BdP (fun b => W1.heap.size ≤ b) W1.heap.size W4 (.slice a2 n c2) bs) := hid (HP.out.keep KS.out (fun b _ h1 h2 => by omega))
      clear BS BP BR HP
      have BS := BS'
      clear BS'
      have BP := BP'
      clear BP'
      have BR := BR'
      clear BR'
      have HP := HP'
      clear HP'
      have HK' : Hd (Keeps (fun _ => False) w W4) := hid (HK.out.trans' KS.out (fun i hi h => by omega))
      clear HK
      have HK := HK'
      clear HK'
      have z_W4 : W3.heap.size + 0 ≤ W4.heap.size := by rw [← hW]; simp
      clear hW KS
      go_wp2_with fail
      go_loopw [] (fun wr => ∃ j : Nat, j ≤ st ∧ Hd (Blk wr w.heap.size #[.slice a2 n c2, .int .i64 ac, .int .u64 ((iterN j k : Nat) : Int), .int .i64 (i + (j : Int))] 57) ∧ Hd (Keeps (fun b => b = w.heap.size) W4 wr)) (fun wr => match wr.cell? ⟨w.heap.size, 3, none⟩ with | some (.int _ z) => (ky - z).toNat | _ => 0)
      case atStart => exact ⟨0, Nat.zero_le _, hid (by have h := BS.out; simpa [iterN] using h), hid (Keeps.refl _ _)⟩
      case round =>
        obtain ⟨X, rfl⟩ : ∃ X, X = wr := ⟨_, rfl⟩
        obtain ⟨j, hj, HB, HX2⟩ := hrel
        have p2 : X.cell? ⟨b_BP, 2, none⟩ = some (.int .i64 ky) := blk_cell (blk_keep BP.out HX2.out (fun h => by omega)) 2
        have p3 : X.cell? ⟨w.heap.size, 3, none⟩ = some (.int .i64 (i + (j : Int))) := blk_cell HB.out 3
        by_cases hlt : i + (j : Int) < ky
        · have hjs : j < st := by omega
          have HL := hid (iterN_lt HLO.out.k j)
          have HS : Hd (iterN (j + 1) k = stepN (iterN j k)) := hid rfl
          have o2 : X.cell? ⟨w.heap.size, 2, none⟩ = some (.int .u64 ((iterN j k : Nat) : Int)) := blk_cell HB.out 2
          have f2 : X.frozen? ⟨w.heap.size, 2, none⟩ = false := blk_free HB.out 2
          have f3 : X.frozen? ⟨w.heap.size, 3, none⟩ = false := blk_free HB.out 3
          generalize iterN j k = x at *
          have hcall := LSign_any ⟨x, i + (j : Int)⟩ (fun _ => True) (.slice none 0 0) [] X ⟨HL.out, by show 0 ≤ i + (j : Int); omega, by show i + (j : Int) ≤ _; omega⟩ (Sl.nil _ _) (by simp) (by simp)
          simp only [← HS.out] at hcall
          obtain ⟨y, hy⟩ : ∃ y, iterN (j + 1) k = y := ⟨_, rfl⟩
          rw [hy] at hcall
          have HY := hid hy
          have HC := hid hcall
          clear hcall hy
          go_wp2_with fail
          refine (HC.out).mono ?_
          rintro e X2 ⟨rfl, hk⟩
          clear HC
          have HB2 := hid (blk_keep HB.out hk (fun h => h))
          have g2 : X2.cell? ⟨w.heap.size, 2, none⟩ = some (.int .u64 (x : Int)) := blk_cell HB2.out 2
          have g3 : X2.cell? ⟨w.heap.size, 3, none⟩ = some (.int .i64 (i + (j : Int))) := blk_cell HB2.out 3
          have h2 : X2.frozen? ⟨w.heap.size, 2, none⟩ = false := blk_free HB2.out 2
          have h3 : X2.frozen? ⟨w.heap.size, 3, none⟩ = false := blk_free HB2.out 3
          have HX3 : Hd (Keeps (fun b => b = w.heap.size) W4 X2) := hid (HX2.out.trans (hk.mono (fun _ _ h => h.elim)))
          clear hk o2 f2 f3
          go_wp2
          go_roundw
          case rel => exact ⟨j + 1, by omega, hid (by have h := blk_set (blk_set HB2.out 2 (.int .u64 (y : Int))) 3 (.int .i64 (i + (j : Int) + 1)); rw [HY.out, show i + ((j + 1 : Nat) : Int) = i + (j : Int) + 1 by omega]; exact h), hid ((HX3.out.setCell (.inl rfl) _).setCell (.inl rfl) _)⟩
          case measure =>
            have e1 := blk_cell (blk_set (blk_set HB2.out 2 (.int .u64 (y : Int))) 3 (.int .i64 (i + (j : Int) + 1))) 3
            rw [show ((X2.setCell ⟨w.heap.size, 2, none⟩ (.int .u64 (y : Int))).setCell ⟨w.heap.size, 3, none⟩ (.int .i64 (i + (j : Int) + 1))).cell? ⟨w.heap.size, 3, none⟩ = some (.int .i64 (i + (j : Int) + 1)) from e1, p3]
            simp only []
            omega
        · have hjs : j = st := by omega
          subst hjs
          have HCX := HCF
          obtain ⟨x, hx⟩ : ∃ x, iterN j k = x := ⟨_, rfl⟩
          rw [hx] at HB HCX
          clear hx
          have HK2 : Hd (Keeps (fun _ => False) w X) := hid (HK.out.trans' HX2.out (fun b hb h => by omega))
          have BX := hid (blk_keep BR.out HX2.out (fun h => by omega))
          have HP2 := hid (HP.out.keep HX2.out (fun b h1 h2 h3 => by rcases h2 with h2 | h2 <;> omega))
          have o0 : X.cell? ⟨w.heap.size, 0, none⟩ = some ((.slice a2 n c2)) := blk_cell HB.out 0
          have o1 : X.cell? ⟨w.heap.size, 1, none⟩ = some ((.int .i64 ac)) := blk_cell HB.out 1
          have o2 : X.cell? ⟨w.heap.size, 2, none⟩ = some ((.int .u64 (x : Int))) := blk_cell HB.out 2
          have b0 : X.cell? ⟨b_BR, 0, none⟩ = some ((.slice none 0 0)) := blk_cell BX.out 0
          have b1 : X.cell? ⟨b_BR, 1, none⟩ = some ((.int .i64 0)) := blk_cell BX.out 1
          have b2 : X.cell? ⟨b_BR, 2, none⟩ = some ((.int .u64 0)) := blk_cell BX.out 2
          have b3 : X.cell? ⟨b_BR, 3, none⟩ = some ((.int .i64 0)) := blk_cell BX.out 3
          have w0 : X.frozen? ⟨b_BR, 0, none⟩ = false := blk_free BX.out 0
          have w1 : X.frozen? ⟨b_BR, 1, none⟩ = false := blk_free BX.out 1
          have w2 : X.frozen? ⟨b_BR, 2, none⟩ = false := blk_free BX.out 2
          have w3 : X.frozen? ⟨b_BR, 3, none⟩ = false := blk_free BX.out 3
          go_wp2
          clear o0 o1 o2 b0 b1 b2 b3 w0 w1 w2 w3
          obtain ⟨HV2, B3⟩ := fin4 HK2.out (show w.heap.size ≤ b_BR by omega) BX.out (.slice a2 n c2) (.int .i64 ac) (.int .u64 (x : Int)) (.int .i64 (i + (j : Int)))
          have r0 := blk_cell B3 0
          have r1 := blk_cell B3 1
          have r2 := blk_cell B3 2
          have r3 := blk_cell B3 3
          refine bodyPost_ret (v := .agg #[(.slice a2 n c2), (.int .i64 ac), (.int .u64 (x : Int)), (.int .i64 (i + (j : Int)))]) (by simp [results, Tryd.results44, go_sem, r0, r1, r2, r3]) rfl ?_
          refine ⟨a2, c2, ?_, ?_, HV2⟩
          · rw [HN.out, HAV.out, HCX.out]
          · rw [HN.out]; exact (HP2.out.bds.keep (keep4 _ b_BR (.slice a2 n c2) (.int .i64 ac) (.int .u64 (x : Int)) (.int .i64 (i + (j : Int)))) (fun b h1 h2 h3 => by rcases h2 with h2 | h2 <;> omega)).mono (fun b _ h => by rcases h with h | h <;> omega)
  · have hmn : min nx (n : Int) = (n : Int) := by omega
    rcases Int.lt_or_le ac (n : Int) with hc2 | hc2
    · have HAV : Hd (A = (n : Int)) := hid (by rw [HAC.out, hmn]; omega)
      clear hmn HAC
      have o_BS_0 : W3.cell? ⟨w.heap.size, 0, none⟩ = some ((.slice a2 n c2)) := blk_cell BS.out 0
      have o_BS_1 : W3.cell? ⟨w.heap.size, 1, none⟩ = some ((.int .i64 ac)) := blk_cell BS.out 1
      have o_BP_0 : W3.cell? ⟨b_BP, 0, none⟩ = some ((.int .i64 nx)) := blk_cell BP.out 0
      have f_BS_1 : W3.frozen? ⟨w.heap.size, 1, none⟩ = false := blk_free BS.out 1
      go_upto_region 3 with fail
      clear o_BS_0 o_BS_1 o_BP_0 f_BS_1
      clear hc1 hc2
      generalize hW : World.setCell W3 _ _ = W4
      have KS : Hd (Keeps (fun b => b = w.heap.size) W3 W4) := hid (by rw [← hW]; exact (Keeps.setCell (S := fun b => b = w.heap.size) (Keeps.refl (fun b => b = w.heap.size) W3) (.inl rfl) _))
      have BS' : Hd (Blk W4 w.heap.size #[(.slice a2 n c2), (.int .i64 (n : Int)), (.int .u64 (k : Int)), (.int .i64 i)] 57) := hid (by rw [← hW]; exact (blk_set BS.out 1 _))
      have BP' : Hd (Blk W4 b_BP #[(.int .i64 nx), (.int .i64 ha), (.int .i64 ky), (.bool lk)] 50) := hid (by rw [← hW]; exact (blk_other BP.out (by omega) _ _))
      have BR' : Hd (Blk W4 b_BR #[(.slice none 0 0), (.int .i64 0), (.int .u64 0), (.int .i64 0)] 57) := hid (by rw [← hW]; exact (blk_other BR.out (by omega) _ _))
      have HP' : Hd (BdP (fun b => W1.heap.size ≤ b) W1.heap.size W4 (.slice a2 n c2) bs) := hid (HP.out.keep KS.out (fun b _ h1 h2 => by omega))
      clear BS BP BR HP
      have BS := BS'
      clear BS'
      have BP := BP'
      clear BP'
      have BR := BR'
      clear BR'
      have HP := HP'
      clear HP'
      have HK' : Hd (Keeps (fun _ => False) w W4) := hid (HK.out.trans' KS.out (fun i hi h => by omega))
      clear HK
      have HK := HK'
      clear HK'
      have z_W4 : W3.heap.size + 0 ≤ W4.heap.size := by rw [← hW]; simp
      clear hW KS
      go_wp2_with fail
      go_loopw [] (fun wr => ∃ j : Nat, j ≤ st ∧ Hd (Blk wr w.heap.size #[.slice a2 n c2, .int .i64 (n : Int), .int .u64 ((iterN j k : Nat) : Int), .int .i64 (i + (j : Int))] 57) ∧ Hd (Keeps (fun b => b = w.heap.size) W4 wr)) (fun wr => match wr.cell? ⟨w.heap.size, 3, none⟩ with | some (.int _ z) => (ky - z).toNat | _ => 0)
      case atStart => exact ⟨0, Nat.zero_le _, hid (by have h := BS.out; simpa [iterN] using h), hid (Keeps.refl _ _)⟩
      case round =>
        obtain ⟨X, rfl⟩ : ∃ X, X = wr := ⟨_, rfl⟩
        obtain ⟨j, hj, HB, HX2⟩ := hrel
        have p2 : X.cell? ⟨b_BP, 2, none⟩ = some (.int .i64 ky) := blk_cell (blk_keep BP.out HX2.out (fun h => by omega)) 2
        have p3 : X.cell? ⟨w.heap.size, 3, none⟩ = some (.int .i64 (i + (j : Int))) := blk_cell HB.out 3
        by_cases hlt : i + (j : Int) < ky
        · have hjs : j < st := by omega
          have HL := hid (iterN_lt HLO.out.k j)
          have HS : Hd (iterN (j + 1) k = stepN (iterN j k)) := hid rfl
          have o2 : X.cell? ⟨w.heap.size, 2, none⟩ = some (.int .u64 ((iterN j k : Nat) : Int)) := blk_cell HB.out 2
          have f2 : X.frozen? ⟨w.heap.size, 2, none⟩ = false := blk_free HB.out 2
          have f3 : X.frozen? ⟨w.heap.size, 3, none⟩ = false := blk_free HB.out 3
          generalize iterN j k = x at *
          have hcall := LSign_any ⟨x, i + (j : Int)⟩ (fun _ => True) (.slice none 0 0) [] X ⟨HL.out, by show 0 ≤ i + (j : Int); omega, by show i + (j : Int) ≤ _; omega⟩ (Sl.nil _ _) (by simp) (by simp)
          simp only [← HS.out] at hcall
          obtain ⟨y, hy⟩ : ∃ y, iterN (j + 1) k = y := ⟨_, rfl⟩
          rw [hy] at hcall
          have HY := hid hy
          have HC := hid hcall
          clear hcall hy
          go_wp2_with fail
          refine (HC.out).mono ?_
          rintro e X2 ⟨rfl, hk⟩
          clear HC
          have HB2 := hid (blk_keep HB.out hk (fun h => h))
          have g2 : X2.cell? ⟨w.heap.size, 2, none⟩ = some (.int .u64 (x : Int)) := blk_cell HB2.out 2
          have g3 : X2.cell? ⟨w.heap.size, 3, none⟩ = some (.int .i64 (i + (j : Int))) := blk_cell HB2.out 3
          have h2 : X2.frozen? ⟨w.heap.size, 2, none⟩ = false := blk_free HB2.out 2
          have h3 : X2.frozen? ⟨w.heap.size, 3, none⟩ = false := blk_free HB2.out 3
          have HX3 : Hd (Keeps (fun b => b = w.heap.size) W4 X2) := hid (HX2.out.trans (hk.mono (fun _ _ h => h.elim)))
          clear hk o2 f2 f3
          go_wp2
          go_roundw
          case rel => exact ⟨j + 1, by omega, hid (by have h := blk_set (blk_set HB2.out 2 (.int .u64 (y : Int))) 3 (.int .i64 (i + (j : Int) + 1)); rw [HY.out, show i + ((j + 1 : Nat) : Int) = i + (j : Int) + 1 by omega]; exact h), hid ((HX3.out.setCell (.inl rfl) _).setCell (.inl rfl) _)⟩
          case measure =>
            have e1 := blk_cell (blk_set (blk_set HB2.out 2 (.int .u64 (y : Int))) 3 (.int .i64 (i + (j : Int) + 1))) 3
            rw [show ((X2.setCell ⟨w.heap.size, 2, none⟩ (.int .u64 (y : Int))).setCell ⟨w.heap.size, 3, none⟩ (.int .i64 (i + (j : Int) + 1))).cell? ⟨w.heap.size, 3, none⟩ = some (.int .i64 (i + (j : Int) + 1)) from e1, p3]
            simp only []
            omega
        · have hjs : j = st := by omega
          subst hjs
          have HCX := HCF
          obtain ⟨x, hx⟩ : ∃ x, iterN j k = x := ⟨_, rfl⟩
          rw [hx] at HB HCX
          clear hx
          have HK2 : Hd (Keeps (fun _ => False) w X) := hid (HK.out.trans' HX2.out (fun b hb h => by omega))
          have BX := hid (blk_keep BR.out HX2.out (fun h => by omega))
          have HP2 := hid (HP.out.keep HX2.out (fun b h1 h2 h3 => by rcases h2 with h2 | h2 <;> omega))
          have o0 : X.cell? ⟨w.heap.size, 0, none⟩ = some ((.slice a2 n c2)) := blk_cell HB.out 0
          have o1 : X.cell? ⟨w.heap.size, 1, none⟩ = some ((.int .i64 (n : Int))) := blk_cell HB.out 1
          have o2 : X.cell? ⟨w.heap.size, 2, none⟩ = some ((.int .u64 (x : Int))) := blk_cell HB.out 2
          have b0 : X.cell? ⟨b_BR, 0, none⟩ = some ((.slice none 0 0)) := blk_cell BX.out 0
          have b1 : X.cell? ⟨b_BR, 1, none⟩ = some ((.int .i64 0)) := blk_cell BX.out 1
          have b2 : X.cell? ⟨b_BR, 2, none⟩ = some ((.int .u64 0)) := blk_cell BX.out 2
          have b3 : X.cell? ⟨b_BR, 3, none⟩ = some ((.int .i64 0)) := blk_cell BX.out 3
          have w0 : X.frozen? ⟨b_BR, 0, none⟩ = false := blk_free BX.out 0
          have w1 : X.frozen? ⟨b_BR, 1, none⟩ = false := blk_free BX.out 1
          have w2 : X.frozen? ⟨b_BR, 2, none⟩ = false := blk_free BX.out 2
          have w3 : X.frozen? ⟨b_BR, 3, none⟩ = false := blk_free BX.out 3
          go_wp2
          clear o0 o1 o2 b0 b1 b2 b3 w0 w1 w2 w3
          obtain ⟨HV2, B3⟩ := fin4 HK2.out (show w.heap.size ≤ b_BR by omega) BX.out (.slice a2 n c2) (.int .i64 (n : Int)) (.int .u64 (x : Int)) (.int .i64 (i + (j : Int)))
          have r0 := blk_cell B3 0
          have r1 := blk_cell B3 1
          have r2 := blk_cell B3 2
          have r3 := blk_cell B3 3
          refine bodyPost_ret (v := .agg #[(.slice a2 n c2), (.int .i64 (n : Int)), (.int .u64 (x : Int)), (.int .i64 (i + (j : Int)))]) (by simp [results, Tryd.results44, go_sem, r0, r1, r2, r3]) rfl ?_
          refine ⟨a2, c2, ?_, ?_, HV2⟩
          · rw [HN.out, HAV.out, HCX.out]
          · rw [HN.out]; exact (HP2.out.bds.keep (keep4 _ b_BR (.slice a2 n c2) (.int .i64 (n : Int)) (.int .u64 (x : Int)) (.int .i64 (i + (j : Int)))) (fun b h1 h2 h3 => by rcases h2 with h2 | h2 <;> omega)).mono (fun b _ h => by rcases h with h | h <;> omega)
    · have HAV : Hd (A = ac) := hid (by rw [HAC.out, hmn]; omega)
      clear hmn HAC
      have o_BS_0 : W3.cell? ⟨w.heap.size, 0, none⟩ = some ((.slice a2 n c2)) := blk_cell BS.out 0
      have o_BS_1 : W3.cell? ⟨w.heap.size, 1, none⟩ = some ((.int .i64 ac)) := blk_cell BS.out 1
      have o_BP_0 : W3.cell? ⟨b_BP, 0, none⟩ = some ((.int .i64 nx)) := blk_cell BP.out 0
      have f_BS_1 : W3.frozen? ⟨w.heap.size, 1, none⟩ = false := blk_free BS.out 1
      go_upto_region 3 with fail
      clear o_BS_0 o_BS_1 o_BP_0 f_BS_1
      clear hc1 hc2
      generalize hW : World.setCell W3 _ _ = W4
      have KS : Hd (Keeps (fun b => b = w.heap.size) W3 W4) := hid (by rw [← hW]; exact (Keeps.setCell (S := fun b => b = w.heap.size) (Keeps.refl (fun b => b = w.heap.size) W3) (.inl rfl) _))
      have BS' : Hd (Blk W4 w.heap.size #[(.slice a2 n c2), (.int .i64 ac), (.int .u64 (k : Int)), (.int .i64 i)] 57) := hid (by rw [← hW]; exact (blk_set BS.out 1 _))
      have BP' : Hd (Blk W4 b_BP #[(.int .i64 nx), (.int .i64 ha), (.int .i64 ky), (.bool lk)] 50) := hid (by rw [← hW]; exact (blk_other BP.out (by omega) _ _))
      have BR' : Hd (Blk W4 b_BR #[(.slice none 0 0), (.int .i64 0), (.int .u64 0), (.int .i64 0)] 57) := hid (by rw [← hW]; exact (blk_other BR.out (by omega) _ _))
      have HP' : Hd (BdP (fun b => W1.heap.size ≤ b) W1.heap.size W4 (.slice a2 n c2) bs) := hid (HP.out.keep KS.out (fun b _ h1 h2 => by omega))
      clear BS BP BR HP
      have BS := BS'
      clear BS'
      have BP := BP'
      clear BP'
      have BR := BR'
      clear BR'
      have HP := HP'
      clear HP'
      have HK' : Hd (Keeps (fun _ => False) w W4) := hid (HK.out.trans' KS.out (fun i hi h => by omega))
      clear HK
      have HK := HK'
      clear HK'
      have z_W4 : W3.heap.size + 0 ≤ W4.heap.size := by rw [← hW]; simp
      clear hW KS
      go_wp2_with fail
      go_loopw [] (fun wr => ∃ j : Nat, j ≤ st ∧ Hd (Blk wr w.heap.size #[.slice a2 n c2, .int .i64 ac, .int .u64 ((iterN j k : Nat) : Int), .int .i64 (i + (j : Int))] 57) ∧ Hd (Keeps (fun b => b = w.heap.size) W4 wr)) (fun wr => match wr.cell? ⟨w.heap.size, 3, none⟩ with | some (.int _ z) => (ky - z).toNat | _ => 0)
      case atStart => exact ⟨0, Nat.zero_le _, hid (by have h := BS.out; simpa [iterN] using h), hid (Keeps.refl _ _)⟩
      case round =>
        obtain ⟨X, rfl⟩ : ∃ X, X = wr := ⟨_, rfl⟩
        obtain ⟨j, hj, HB, HX2⟩ := hrel
        have p2 : X.cell? ⟨b_BP, 2, none⟩ = some (.int .i64 ky) := blk_cell (blk_keep BP.out HX2.out (fun h => by omega)) 2
        have p3 : X.cell? ⟨w.heap.size, 3, none⟩ = some (.int .i64 (i + (j : Int))) := blk_cell HB.out 3
        by_cases hlt : i + (j : Int) < ky
        · have hjs : j < st := by omega
          have HL := hid (iterN_lt HLO.out.k j)
          have HS : Hd (iterN (j + 1) k = stepN (iterN j k)) := hid rfl
          have o2 : X.cell? ⟨w.heap.size, 2, none⟩ = some (.int .u64 ((iterN j k : Nat) : Int)) := blk_cell HB.out 2
          have f2 : X.frozen? ⟨w.heap.size, 2, none⟩ = false := blk_free HB.out 2
          have f3 : X.frozen? ⟨w.heap.size, 3, none⟩ = false := blk_free HB.out 3
          generalize iterN j k = x at *
          have hcall := LSign_any ⟨x, i + (j : Int)⟩ (fun _ => True) (.slice none 0 0) [] X ⟨HL.out, by show 0 ≤ i + (j : Int); omega, by show i + (j : Int) ≤ _; omega⟩ (Sl.nil _ _) (by simp) (by simp)
          simp only [← HS.out] at hcall
          obtain ⟨y, hy⟩ : ∃ y, iterN (j + 1) k = y := ⟨_, rfl⟩
          rw [hy] at hcall
          have HY := hid hy
          have HC := hid hcall
          clear hcall hy
          go_wp2_with fail
          refine (HC.out).mono ?_
          rintro e X2 ⟨rfl, hk⟩
          clear HC
          have HB2 := hid (blk_keep HB.out hk (fun h => h))
          have g2 : X2.cell? ⟨w.heap.size, 2, none⟩ = some (.int .u64 (x : Int)) := blk_cell HB2.out 2
          have g3 : X2.cell? ⟨w.heap.size, 3, none⟩ = some (.int .i64 (i + (j : Int))) := blk_cell HB2.out 3
          have h2 : X2.frozen? ⟨w.heap.size, 2, none⟩ = false := blk_free HB2.out 2
          have h3 : X2.frozen? ⟨w.heap.size, 3, none⟩ = false := blk_free HB2.out 3
          have HX3 : Hd (Keeps (fun b => b = w.heap.size) W4 X2) := hid (HX2.out.trans (hk.mono (fun _ _ h => h.elim)))
          clear hk o2 f2 f3
          go_wp2
          go_roundw
          case rel => exact ⟨j + 1, by omega, hid (by have h := blk_set (blk_set HB2.out 2 (.int .u64 (y : Int))) 3 (.int .i64 (i + (j : Int) + 1)); rw [HY.out, show i + ((j + 1 : Nat) : Int) = i + (j : Int) + 1 by omega]; exact h), hid ((HX3.out.setCell (.inl rfl) _).setCell (.inl rfl) _)⟩
          case measure =>
            have e1 := blk_cell (blk_set (blk_set HB2.out 2 (.int .u64 (y : Int))) 3 (.int .i64 (i + (j : Int) + 1))) 3
            rw [show ((X2.setCell ⟨w.heap.size, 2, none⟩ (.int .u64 (y : Int))).setCell ⟨w.heap.size, 3, none⟩ (.int .i64 (i + (j : Int) + 1))).cell? ⟨w.heap.size, 3, none⟩ = some (.int .i64 (i + (j : Int) + 1)) from e1, p3]
            simp only []
            omega
        · have hjs : j = st := by omega
          subst hjs
          have HCX := HCF
          obtain ⟨x, hx⟩ : ∃ x, iterN j k = x := ⟨_, rfl⟩
          rw [hx] at HB HCX
          clear hx
          have HK2 : Hd (Keeps (fun _ => False) w X) := hid (HK.out.trans' HX2.out (fun b hb h => by omega))
          have BX := hid (blk_keep BR.out HX2.out (fun h => by omega))
          have HP2 := hid (HP.out.keep HX2.out (fun b h1 h2 h3 => by rcases h2 with h2 | h2 <;> omega))
          have o0 : X.cell? ⟨w.heap.size, 0, none⟩ = some ((.slice a2 n c2)) := blk_cell HB.out 0
          have o1 : X.cell? ⟨w.heap.size, 1, none⟩ = some ((.int .i64 ac)) := blk_cell HB.out 1
          have o2 : X.cell? ⟨w.heap.size, 2, none⟩ = some ((.int .u64 (x : Int))) := blk_cell HB.out 2
          have b0 : X.cell? ⟨b_BR, 0, none⟩ = some ((.slice none 0 0)) := blk_cell BX.out 0
          have b1 : X.cell? ⟨b_BR, 1, none⟩ = some ((.int .i64 0)) := blk_cell BX.out 1
          have b2 : X.cell? ⟨b_BR, 2, none⟩ = some ((.int .u64 0)) := blk_cell BX.out 2
          have b3 : X.cell? ⟨b_BR, 3, none⟩ = some ((.int .i64 0)) := blk_cell BX.out 3
          have w0 : X.frozen? ⟨b_BR, 0, none⟩ = false := blk_free BX.out 0
          have w1 : X.frozen? ⟨b_BR, 1, none⟩ = false := blk_free BX.out 1
          have w2 : X.frozen? ⟨b_BR, 2, none⟩ = false := blk_free BX.out 2
          have w3 : X.frozen? ⟨b_BR, 3, none⟩ = false := blk_free BX.out 3
          go_wp2
          clear o0 o1 o2 b0 b1 b2 b3 w0 w1 w2 w3
          obtain ⟨HV2, B3⟩ := fin4 HK2.out (show w.heap.size ≤ b_BR by omega) BX.out (.slice a2 n c2) (.int .i64 ac) (.int .u64 (x : Int)) (.int .i64 (i + (j : Int)))
          have r0 := blk_cell B3 0
          have r1 := blk_cell B3 1
          have r2 := blk_cell B3 2
          have r3 := blk_cell B3 3
          refine bodyPost_ret (v := .agg #[(.slice a2 n c2), (.int .i64 ac), (.int .u64 (x : Int)), (.int .i64 (i + (j : Int)))]) (by simp [results, Tryd.results44, go_sem, r0, r1, r2, r3]) rfl ?_
          refine ⟨a2, c2, ?_, ?_, HV2⟩
          · rw [HN.out, HAV.out, HCX.out]
          · rw [HN.out]; exact (HP2.out.bds.keep (keep4 _ b_BR (.slice a2 n c2) (.int .i64 ac) (.int .u64 (x : Int)) (.int .i64 (i + (j : Int)))) (fun b h1 h2 h3 => by rcases h2 with h2 | h2 <;> omega)).mono (fun b _ h => by rcases h with h | h <;> omega)
end Go.Proofs.YthoikljmokkchaaDoor
