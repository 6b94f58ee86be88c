/- Frames: FrSA, FrSB: walks and plain facts. -/
import Derived.Test.YthoikljmokkchaaDoorFrT
import Derived.Test.YthoikljmokkchaaDoorFrManyX
import Derived.Test.YthoikljmokkchaaDoorFrTwo
import Derived.Test.YthoikljmokkchaaDoorFrSem
import Derived.Test.YthoikljmokkchaaDoorFrPlain
import Derived.Deep.DrawnRows
import Derived.Test.YthoikljmokkchaaDoorFrRun
import Derived.Test.YthoikljmokkchaaDoorFrU
import Derived.Test.YthoikljmokkchaaDoorFrZ
namespace Go.Proofs.YthoikljmokkchaaDoor
open Go.RowKit
attribute [local go_sem ↓] Go.wp_at_zero Go.wp_at_succ
theorem RNewSender_any (k : Nat) (w : World) : Calls Tryd.prog 36 #[.int .u64 (k : Int)] w fun e w' => e = .returned (.agg #[(.slice none 0 0), (.int .i64 0), (.int .u64 (k : Int)), (.int .i64 0)]) ∧ Keeps (fun _ => False) w w' := by
  go_enter Tryd.func36, Tryd.ntmps36
  go_upto_region 1 with fail
  generalize hW : World.alloc w _ = W1
  have KS : Hd (Keeps (fun _ => False) w W1) := hid (by rw [← hW]; exact (Keeps.alloc (Keeps.refl (fun _ => False) w) _))
  have BR : Hd (Blk W1 w.heap.size #[(.slice none 0 0), (.int .i64 0), (.int .u64 0), (.int .i64 0)] 57) := hid (by rw [← hW]; exact (blk_new _ _ _))
  have HK : Hd (Keeps (fun _ => False) w W1) := hid KS.out
  have z_W1 : w.heap.size + 1 ≤ W1.heap.size := by rw [← hW]; simp
  clear hW KS
  have o_BR_0 : W1.cell? ⟨w.heap.size, 0, none⟩ = some ((.slice none 0 0)) := blk_cell BR.out 0
  have o_BR_1 : W1.cell? ⟨w.heap.size, 1, none⟩ = some ((.int .i64 0)) := blk_cell BR.out 1
  have o_BR_2 : W1.cell? ⟨w.heap.size, 2, none⟩ = some ((.int .u64 0)) := blk_cell BR.out 2
  have o_BR_3 : W1.cell? ⟨w.heap.size, 3, none⟩ = some ((.int .i64 0)) := blk_cell BR.out 3
  have f_BR_0 : W1.frozen? ⟨w.heap.size, 0, none⟩ = false := blk_free BR.out 0
  have f_BR_1 : W1.frozen? ⟨w.heap.size, 1, none⟩ = false := blk_free BR.out 1
  have f_BR_2 : W1.frozen? ⟨w.heap.size, 2, none⟩ = false := blk_free BR.out 2
  have f_BR_3 : W1.frozen? ⟨w.heap.size, 3, none⟩ = false := blk_free BR.out 3
  go_wp2
  clear o_BR_0 o_BR_1 o_BR_2 o_BR_3 f_BR_0 f_BR_1 f_BR_2 f_BR_3
  obtain ⟨HV2, B3⟩ := fin4 HK.out (show w.heap.size ≤ w.heap.size by omega) BR.out (.slice none 0 0) (.int .i64 0) (.int .u64 (k : Int)) (.int .i64 0)
  have r0 := blk_cell B3 0
  have r1 := blk_cell B3 1
  have r2 := blk_cell B3 2
  have r3 := blk_cell B3 3
  refine bodyPost_ret (v := .agg #[(.slice none 0 0), (.int .i64 0), (.int .u64 (k : Int)), (.int .i64 0)]) (by simp [results, Tryd.results36, go_sem, r0, r1, r2, r3]) rfl ?_
  exact ⟨rfl, HV2⟩
set_option maxRecDepth 100000 in
set_option maxHeartbeats 2000000 in
theorem Rsign_any (l : Ld) (f : Fr) (ac : Int) (ba : Option Addr) (bn bc : Nat) (K : Nat → Prop) (a : Option Addr) (c : Nat) (w : World) (hl : l.ok) (hf : f.ok) (hx : Sl K w (.slice a f.b.length c) (u8s f.b)) :
    Calls Tryd.prog 76 #[.agg #[.slice ba bn bc, .int .i64 ac, .int .u64 (l.k : Int), .int .i64 l.i], .agg #[.int .i64 f.q, .int .i64 f.k, .bool f.u, .slice a f.b.length c, .int .u64 (f.t : Int)]] w fun e w' => e = .returned (.tuple #[.agg #[.int .i64 f.q, .int .i64 l.i, .bool f.u, .slice a f.b.length c, .int .u64 ((signF l f).t : Int)], .agg #[.slice ba bn bc, .int .i64 ac, .int .u64 (stepN l.k : Nat), .int .i64 (l.i + 1)]]) ∧ Keeps (fun _ => False) w w' := by
  obtain ⟨g, hg⟩ : ∃ g, setK f l.i = g := ⟨_, rfl⟩
  have HGO : Hd g.ok := hid (by rw [← hg]; exact setK_ok hf hl)
  obtain ⟨en, hen⟩ : ∃ en, covL g = en := ⟨_, rfl⟩
  have HEL : Hd (en.length ≤ 140737488355000) := hid (by rw [← hen]; have h1 := covL_len HGO.out; have := HGO.out.n; omega)
  have HET : Hd (∀ c ∈ en, c < 256) := hid (by rw [← hen]; exact covL_lt HGO.out)
  obtain ⟨t, ht⟩ : ∃ t, tagN l.k en = t := ⟨_, rfl⟩
  have hst : (signF l f).t = t := by rw [← ht, ← hen, ← hg]; rfl
  rw [hst]
  have HLO := hid hl
  have HX := hid (hx.mono (K' := fun b => b < w.heap.size) (fun b h _ => h))
  have HG : Hd (g = ⟨f.q, l.i, f.u, f.b, f.t⟩) := hid hg.symm
  have HEN := hid hen; have HT := hid ht
  obtain ⟨k, i⟩ := l
  obtain ⟨s, hs⟩ : ∃ s, stepN k = s := ⟨_, rfl⟩
  simp only [] at *
  rw [hs]
  have HS := hid hs
  have hi0 := HLO.out.i0; have hi1 := HLO.out.i1
  obtain ⟨m, hm⟩ : ∃ m, f.b.length = m := ⟨_, rfl⟩
  have HM := hid hm
  rw [hm] at HX ⊢
  clear hg hen ht hst hl hf hx hs hm
  go_enter Tryd.func76, Tryd.ntmps76
  go_upto_region 1 with fail
  generalize hW : World.alloc (World.alloc (World.alloc (World.alloc w _) _) _) _ = W1
  have KS : Hd (Keeps (fun _ => False) w W1) := hid (by rw [← hW]; exact (Keeps.alloc (Keeps.alloc (Keeps.alloc (Keeps.alloc (Keeps.refl (fun _ => False) w) _) _) _) _))
  have HX' : Hd (Sl (fun b => b < w.heap.size) W1 (.slice a m c) (u8s f.b)) := hid (HX.out.keep KS.out (fun _ _ _ h => h))
  have BS : Hd (Blk W1 w.heap.size #[(.slice ba bn bc), (.int .i64 ac), (.int .u64 (k : Int)), (.int .i64 i)] 57) := hid (by rw [← hW]; exact (blk_alloc (blk_alloc (blk_alloc (blk_new _ _ _) _) _) _))
  have BF : Hd (Blk W1 (w.heap.size + 1) #[(.int .i64 f.q), (.int .i64 f.k), (.bool f.u), (.slice a m c), (.int .u64 (f.t : Int))] 25) := hid (by rw [← hW]; exact (blk_alloc (blk_alloc (blk_new' _ _ _ _ (by simp)) _) _))
  have BR1 : Hd (Blk W1 (w.heap.size + 1 + 1) #[(.int .i64 0), (.int .i64 0), (.bool false), (.slice none 0 0), (.int .u64 0)] 25) := hid (by rw [← hW]; exact (blk_alloc (blk_new' _ _ _ _ (by simp)) _))
  have BR2 : Hd (Blk W1 (w.heap.size + 1 + 1 + 1) #[(.slice none 0 0), (.int .i64 0), (.int .u64 0), (.int .i64 0)] 57) := hid (by rw [← hW]; exact (blk_new' _ _ _ _ (by simp)))
  clear HX
  have HX := HX'
  clear HX'
  have HK : Hd (Keeps (fun _ => False) w W1) := hid KS.out
  have z_W1 : w.heap.size + 4 ≤ W1.heap.size := by rw [← hW]; simp
  clear hW KS
  generalize hb_BR2 : w.heap.size + 1 + 1 + 1 = b_BR2 at *
  generalize hb_BR1 : w.heap.size + 1 + 1 = b_BR1 at *
  generalize hb_BF : w.heap.size + 1 = b_BF at *
  have o_BS_3 : W1.cell? ⟨w.heap.size, 3, none⟩ = some ((.int .i64 i)) := blk_cell BS.out 3
  have o_BF_1 : W1.cell? ⟨b_BF, 1, none⟩ = some ((.int .i64 f.k)) := blk_cell BF.out 1
  have f_BF_1 : W1.frozen? ⟨b_BF, 1, none⟩ = false := blk_free BF.out 1
  go_upto_region 2 with fail
  clear o_BS_3 o_BF_1 f_BF_1
  generalize hW : World.setCell W1 _ _ = W2
  have KS : Hd (Keeps (fun b => b = b_BF) W1 W2) := hid (by rw [← hW]; exact (Keeps.setCell (S := fun b => b = b_BF) (p := ⟨b_BF, 1, none⟩) (Keeps.refl (fun b => b = b_BF) W1) (.inl rfl) _))
  have HX' : Hd (Sl (fun b => b < w.heap.size) W2 (.slice a m c) (u8s f.b)) := hid (HX.out.keep KS.out (fun b h1 h2 h3 => by omega))
  have BS' : Hd (Blk W2 w.heap.size #[(.slice ba bn bc), (.int .i64 ac), (.int .u64 (k : Int)), (.int .i64 i)] 57) := hid (by rw [← hW]; exact (blk_other BS.out (by omega) _ _))
  have BF' : Hd (Blk W2 b_BF #[(.int .i64 f.q), (.int .i64 i), (.bool f.u), (.slice a m c), (.int .u64 (f.t : Int))] 25) := hid (by rw [← hW]; exact (blk_set BF.out 1 _))
  have BR1' : Hd (Blk W2 b_BR1 #[(.int .i64 0), (.int .i64 0), (.bool false), (.slice none 0 0), (.int .u64 0)] 25) := hid (by rw [← hW]; exact (blk_other BR1.out (by omega) _ _))
  have BR2' : Hd (Blk W2 b_BR2 #[(.slice none 0 0), (.int .i64 0), (.int .u64 0), (.int .i64 0)] 57) := hid (by rw [← hW]; exact (blk_other BR2.out (by omega) _ _))
  clear HX BS BF BR1 BR2
  have HX := HX'
  clear HX'
  have BS := BS'
  clear BS'
  have BF := BF'
  clear BF'
  have BR1 := BR1'
  clear BR1'
  have BR2 := BR2'
  clear BR2'
  have HK' : Hd (Keeps (fun _ => False) w W2) := hid (HK.out.trans' KS.out (fun i hi h => by omega))
  clear HK
  have HK := HK'
  clear HK'
  have z_W2 : W1.heap.size + 0 ≤ W2.heap.size := by rw [← hW]; simp
  clear hW KS
  have HCS : Hd (∀ X, Keeps (fun _ => False) W2 X → Calls Tryd.prog 15 #[.agg #[.int .i64 f.q, .int .i64 i, .bool f.u, .slice a m c, .int .u64 (f.t : Int)]] X fun e w' => ∃ an cn, e = .returned (.slice an en.length cn) ∧ Sl (fun b => X.heap.size ≤ b) w' (.slice an en.length cn) (u8s en) ∧ Keeps (fun _ => False) X w') := hid (fun X hx => by have h := RSigned_any g (fun b => b < w.heap.size) a c X HGO.out (by have h := HX.out.keep hx (fun _ _ _ h => h); rw [HG.out]; rw [HM.out]; exact h); rw [HEN.out] at h; simp only [HG.out, HM.out] at h; exact h.mono (fun e w' ⟨a, n, c, he, hn, ho, hk⟩ => ⟨a, c, by rw [he, hn, u8s_length], (by have h := row_sl ho.row (by rw [hn]); rw [hn, u8s_length] at h; exact h), hk⟩))
  have HCL : Hd (∀ X (v : Value) (K : Nat → Prop), Sl K X v (u8s en) → Calls Tryd.prog 77 #[.agg #[.int .u64 (k : Int), .int .i64 i], v] X fun e w' => e = .returned (.tuple #[.int .u64 (t : Int), .agg #[.int .u64 (s : Int), .int .i64 (i + 1)]]) ∧ Keeps (fun _ => False) X w') := hid (fun X v K hv => by have h := RLSign_any ⟨k, i⟩ K v en X HLO.out hv HET.out (Nat.le_trans HEL.out (by decide)); simp only [HT.out, HS.out] at h; exact h)
  go_upto_region 2 with fail
  go_cut [6, 7] from 12 to 19 (fun u6 u7 wx => u6 = .int .u64 (t : Int) ∧ ∃ bK, u7 = .pointer (some ⟨bK, 0, none⟩) ∧ W2.heap.size ≤ bK ∧ Hd (Blk wx bK #[.int .u64 (s : Int), .int .i64 (i + 1)] 33) ∧ Hd (Keeps (fun _ => False) W2 wx))
  case first =>
    refine wp_many (C := mkMC 3 [3, 4, 5, 6, 7, 9, 10] [(8, 33, #[(.int .u64 0), (.int .i64 0)])] [(10, 8, 7)] [(fun _ => .pointer (some ⟨w.heap.size, 2, none⟩)), (fun _ => .agg #[.int .u64 (k : Int), .int .i64 i]), (fun _ => .agg #[.int .i64 f.q, .int .i64 i, .bool f.u, .slice a m c, .int .u64 (f.t : Int)]), (fun r => r), (fun r => .tuple #[.int .u64 (t : Int), .agg #[.int .u64 (s : Int), .int .i64 (i + 1)]]), (fun r => .tuple #[.int .u64 (t : Int), .agg #[.int .u64 (s : Int), .int .i64 (i + 1)]]), (fun r => .int .u64 (t : Int)), (fun r => .agg #[.int .u64 (s : Int), .int .i64 (i + 1)]), (fun _ => undef), (fun r => .int .u64 (t : Int)), (fun _ => undef)] (fun _ _ => #[.int .u64 (s : Int), .int .i64 (i + 1)]) (slR en)) (by kernel_rfl) ?H ?HV 3 rfl ?HC ?HE
    case H =>
      refine { back := by kernel_rfl, dst := uniqB_spec (by kernel_rfl), szd := underB_spec (by kernel_rfl), val := valB_spec3 (f := mkV [(8, 33, #[(.int .u64 0), (.int .i64 0)])] [(10, 8, 7)]) (by kernel_rfl), alo := ?_, sto := ?_, stc := ?_, all := allB3_spec (f := mkV [(8, 33, #[(.int .u64 0), (.int .i64 0)])] [(10, 8, 7)]) (g := mkA [(8, 33, #[(.int .u64 0), (.int .i64 0)])]) (h := mkS [(10, 8, 7)]) (by kernel_rfl), nva := ?_, nvs := ?_, one := ?_, civ := rfl, nd := ?_, cd := rfl, dd := ?_, sem := klSem _ _ _ _ _ _ _ _ _ rfl }
      · intro j o h0 ha
        have h1 : 8 = j := by simpa [mkMC] using ha
        subst h1
        all_goals
          have h2 := h0
          simp only [List.getElem?_cons_succ, List.getElem?_cons_zero, Option.some.injEq] at h2
          subst h2
          exact ⟨⟨_, rfl⟩, rfl, rfl⟩
      · intro s o h0 ha
        have h1 : 10 = s := by simpa [mkMC] using ha
        subst h1
        all_goals
          have h2 := h0
          simp only [List.getElem?_cons_succ, List.getElem?_cons_zero, Option.some.injEq] at h2
          subst h2
          exact ⟨_, _, _, _, rfl, rfl, rfl, rfl, rfl, rfl, rfl, waitsB_spec (by kernel_rfl), waitsB_spec (by kernel_rfl)⟩
      · intro s ha
        have h1 : 10 = s := by simpa [mkMC] using ha
        subst h1
        all_goals exact ⟨rfl, rfl, rfl, rfl⟩
      · intro s ha
        have h1 : 8 = s := by simpa [mkMC] using ha
        subst h1
        all_goals exact ⟨rfl, rfl, rfl⟩
      · intro s ha
        have h1 : 10 = s := by simpa [mkMC] using ha
        subst h1
        all_goals exact ⟨rfl, rfl⟩
      · intro s t ha hb hst
        have h1 : 10 = s := by simpa [mkMC] using ha
        subst h1
        all_goals (have h2 : 10 = t := by simpa [mkMC] using hb)
        exact h2
      · intro i r r' hv hD
        match i, hD with
        | 0, _ => rfl
        | 1, _ => rfl
        | 2, _ => rfl
        | 3, h => exact absurd h (by simp [mkMC])
        | 4, h => exact absurd h (by simp [mkMC])
        | 5, h => exact absurd h (by simp [mkMC])
        | 6, h => exact absurd h (by simp [mkMC])
        | 7, h => exact absurd h (by simp [mkMC])
        | 8, _ => rfl
        | 9, h => exact absurd h (by simp [mkMC])
        | 10, h => exact absurd h (by simp [mkMC])
        | n + 11, _ => rfl
      · intro i o h0 hD hne
        match i, h0, hD, hne with
        | 0, _, hD, _ => exact absurd hD (by simp [mkMC])
        | 1, _, hD, _ => exact absurd hD (by simp [mkMC])
        | 2, _, hD, _ => exact absurd hD (by simp [mkMC])
        | 3, _, _, hne => exact absurd rfl hne
        | 4, h0, _, _ =>
          simp only [List.getElem?_cons_succ, List.getElem?_cons_zero, Option.some.injEq] at h0
          subst h0
          exact ⟨3, waitsB_spec (by kernel_rfl), rfl⟩
        | 5, h0, _, _ =>
          simp only [List.getElem?_cons_succ, List.getElem?_cons_zero, Option.some.injEq] at h0
          subst h0
          exact ⟨4, waitsB_spec (by kernel_rfl), rfl⟩
        | 6, h0, _, _ =>
          simp only [List.getElem?_cons_succ, List.getElem?_cons_zero, Option.some.injEq] at h0
          subst h0
          exact ⟨5, waitsB_spec (by kernel_rfl), rfl⟩
        | 7, h0, _, _ =>
          simp only [List.getElem?_cons_succ, List.getElem?_cons_zero, Option.some.injEq] at h0
          subst h0
          exact ⟨5, waitsB_spec (by kernel_rfl), rfl⟩
        | 8, _, hD, _ => exact absurd hD (by simp [mkMC])
        | 9, h0, _, _ =>
          simp only [List.getElem?_cons_succ, List.getElem?_cons_zero, Option.some.injEq] at h0
          subst h0
          exact ⟨6, waitsB_spec (by kernel_rfl), rfl⟩
        | 10, h0, _, _ =>
          simp only [List.getElem?_cons_succ, List.getElem?_cons_zero, Option.some.injEq] at h0
          subst h0
          exact ⟨7, waitsB_spec (by kernel_rfl), rfl⟩
        | n + 11, h0, _, _ => simp at h0
    case HV =>
      intro iq o hv hne hi aq w' r hk hd hR
      match iq, hv, hne, hi, hR with
      | 0, _, _, hi, hR =>
        have hi1 := hi
        simp only [List.getElem?_cons_succ, List.getElem?_cons_zero, Option.some.injEq] at hi1
        subst hi1
        have e0 : aq.eval (.tmp 2) = .pointer (some ⟨w.heap.size, 0, none⟩) := (hd.out (by kernel_rfl)).trans rfl
        exact wpOp_ranL hi rfl (v := .pointer (some ⟨w.heap.size, 2, none⟩)) (w' := w') (by simp only [execOp, e0]; go_simp) ⟨rfl, Keeps.refl _ _⟩
      | 1, _, _, hi, hR =>
        have hi1 := hi
        simp only [List.getElem?_cons_succ, List.getElem?_cons_zero, Option.some.injEq] at hi1
        subst hi1
        have e0 : aq.eval (.tmp 13) = .pointer (some ⟨w.heap.size, 2, none⟩) := hd.val (j := 0) (by kernel_rfl) rfl rfl rfl
        have c0 := keep_cell hk (fun h => h) (blk_cell BS.out 2)
        have c1 := keep_cell hk (fun h => h) (blk_cell BS.out 3)
        exact wpOp_ranL hi rfl (v := .agg #[.int .u64 (k : Int), .int .i64 i]) (w' := w') (by simp only [execOp, e0]; go_simp) ⟨rfl, Keeps.refl _ _⟩
      | 2, _, _, hi, hR =>
        have hi1 := hi
        simp only [List.getElem?_cons_succ, List.getElem?_cons_zero, Option.some.injEq] at hi1
        subst hi1
        have e0 : aq.eval (.tmp 3) = .pointer (some ⟨b_BF, 0, none⟩) := (hd.out (by kernel_rfl)).trans rfl
        have c0 := keep_cell hk (fun h => h) (blk_cell BF.out 0)
        have c1 := keep_cell hk (fun h => h) (blk_cell BF.out 1)
        have c2 := keep_cell hk (fun h => h) (blk_cell BF.out 2)
        have c3 := keep_cell hk (fun h => h) (blk_cell BF.out 3)
        have c4 := keep_cell hk (fun h => h) (blk_cell BF.out 4)
        exact wpOp_ranL hi rfl (v := .agg #[.int .i64 f.q, .int .i64 i, .bool f.u, .slice a m c, .int .u64 (f.t : Int)]) (w' := w') (by simp only [execOp, e0]; go_simp) ⟨rfl, Keeps.refl _ _⟩
      | 3, _, hne, _, _ => exact absurd rfl hne
      | 4, _, _, hi, hR =>
        have hi1 := hi
        simp only [List.getElem?_cons_succ, List.getElem?_cons_zero, Option.some.injEq] at hi1
        subst hi1
        obtain ⟨K, an, cn, rfl, hsl⟩ := hR rfl
        have e0 : aq.eval (.tmp 14) = .agg #[.int .u64 (k : Int), .int .i64 i] := hd.val (j := 1) (by kernel_rfl) rfl rfl rfl
        have e1 : aq.eval (.tmp 16) = .slice an en.length cn := hd.val (j := 3) (by kernel_rfl) rfl rfl rfl
        exact wpOp_callL hi rfl (f := 77) (args := #[.agg #[.int .u64 (k : Int), .int .i64 i], .slice an en.length cn]) (by simp only [execOp_call_go, List.map_toArray, List.map_cons, List.map_nil, e0, e1]; rfl) ((HCL.out _ _ _ hsl).mono (fun e w2 ⟨he, hk2⟩ => ⟨_, he, rfl, hk2⟩))
      | 5, _, _, hi, hR =>
        have hi1 := hi
        simp only [List.getElem?_cons_succ, List.getElem?_cons_zero, Option.some.injEq] at hi1
        subst hi1
        obtain ⟨K, an, cn, rfl, hsl⟩ := hR rfl
        have e0 : aq.eval (.tmp 17) = .tuple #[.int .u64 (t : Int), .agg #[.int .u64 (s : Int), .int .i64 (i + 1)]] := hd.val (j := 4) (by kernel_rfl) rfl rfl rfl
        exact wpOp_ranL hi rfl (v := .tuple #[.int .u64 (t : Int), .agg #[.int .u64 (s : Int), .int .i64 (i + 1)]]) (w' := w') (by simp only [execOp, e0]; rfl) ⟨rfl, Keeps.refl _ _⟩
      | 6, _, _, hi, hR =>
        have hi1 := hi
        simp only [List.getElem?_cons_succ, List.getElem?_cons_zero, Option.some.injEq] at hi1
        subst hi1
        obtain ⟨K, an, cn, rfl, hsl⟩ := hR rfl
        have e0 : aq.eval (.tmp 12) = .tuple #[.int .u64 (t : Int), .agg #[.int .u64 (s : Int), .int .i64 (i + 1)]] := hd.val (j := 5) (by kernel_rfl) rfl rfl rfl
        exact wpOp_ranL hi rfl (v := .int .u64 (t : Int)) (w' := w') (by simp only [execOp, e0]; rfl) ⟨rfl, Keeps.refl _ _⟩
      | 7, _, _, hi, hR =>
        have hi1 := hi
        simp only [List.getElem?_cons_succ, List.getElem?_cons_zero, Option.some.injEq] at hi1
        subst hi1
        obtain ⟨K, an, cn, rfl, hsl⟩ := hR rfl
        have e0 : aq.eval (.tmp 12) = .tuple #[.int .u64 (t : Int), .agg #[.int .u64 (s : Int), .int .i64 (i + 1)]] := hd.val (j := 5) (by kernel_rfl) rfl rfl rfl
        exact wpOp_ranL hi rfl (v := .agg #[.int .u64 (s : Int), .int .i64 (i + 1)]) (w' := w') (by simp only [execOp, e0]; rfl) ⟨rfl, Keeps.refl _ _⟩
      | 8, hv, _, _, _ => cases hv
      | 9, _, _, hi, hR =>
        have hi1 := hi
        simp only [List.getElem?_cons_succ, List.getElem?_cons_zero, Option.some.injEq] at hi1
        subst hi1
        obtain ⟨K, an, cn, rfl, hsl⟩ := hR rfl
        have e0 : aq.eval (.tmp 18) = .int .u64 (t : Int) := hd.val (j := 6) (by kernel_rfl) rfl rfl rfl
        exact wpOp_ranL hi rfl (v := .int .u64 (t : Int)) (w' := w') (by simp only [execOp, e0]; rfl) ⟨rfl, Keeps.refl _ _⟩
      | 10, hv, _, _, _ => cases hv
      | n + 11, _, _, hi, _ => simp at hi
    case HC =>
      intro o hi aq w' r hk hd
      have hi1 := hi
      simp only [List.getElem?_cons_succ, List.getElem?_cons_zero, Option.some.injEq] at hi1
      subst hi1
      have e0 : aq.eval (.tmp 15) = .agg #[.int .i64 f.q, .int .i64 i, .bool f.u, .slice a m c, .int .u64 (f.t : Int)] := hd.val (j := 2) (by kernel_rfl) rfl rfl rfl
      exact wpOp_callL hi rfl (f := 15) (args := #[.agg #[.int .i64 f.q, .int .i64 i, .bool f.u, .slice a m c, .int .u64 (f.t : Int)]]) (by simp only [execOp_call_go, List.map_toArray, List.map_cons, List.map_nil, e0]; rfl) ((HCS.out _ hk).mono (fun e w2 ⟨an, cn, he, hsl, hk2⟩ => ⟨_, he, _, rfl, hk2, an, cn, rfl, hsl.mono (fun b _ h => .inr h)⟩))
    case HE =>
      intro L aq w' gg r hL hT
      have em := act_mix (bs := [true, true, true, true, true, true, false, false, true, true, true, true, false, false, false, false, false, false, false, false, true, true, true, true, true, true]) hT.sz hT.df hT.fr rfl (by kernel_rfl)
      have hR := hT.c (hL 3 (by decide))
      obtain ⟨an, cn, rfl, hsl⟩ := hR
      have kW := hT.kp
      obtain ⟨eA8, zA8, cs8, -, bA8, sA8⟩ := hT.al 8 rfl (hL 8 (by decide)) _ 7 rfl rfl
      have sA8 := sA8 10 rfl (hL 10 (by decide)) rfl
      subst sA8
      change aq.tmps.getD 7 undef = _ at eA8
      generalize gg 8 = g8 at *
      have k6 : aq.tmps.getD 6 undef = .int .u64 (t : Int) := hT.v 9 _ 6 rfl (hL 9 (by decide)) rfl rfl
      clear hT hL
      simp only [mix, eA8, k6] at em
      clear eA8 k6
      generalize aq.tmps.getD 13 undef = q13 at em
      generalize aq.tmps.getD 14 undef = q14 at em
      generalize aq.tmps.getD 15 undef = q15 at em
      generalize aq.tmps.getD 16 undef = q16 at em
      generalize aq.tmps.getD 17 undef = q17 at em
      generalize aq.tmps.getD 12 undef = q12 at em
      generalize aq.tmps.getD 18 undef = q18 at em
      generalize aq.tmps.getD 19 undef = q19 at em
      subst em
      simp only [Exit.then]
      go_wp2_with fail
      go_meet
      exact ⟨rfl, g8, rfl, zA8, hid bA8, hid kW⟩
  case rest =>
  obtain ⟨rfl, b_K, rfl, hb_K, B_K, hk⟩ := hcut
  replace hk := hk.out
  generalize wc = W3 at *
  have HX' : Hd (Sl (fun b => b < w.heap.size) W3 (.slice a m c) (u8s f.b)) := hid (HX.out.keep hk (fun _ _ _ h => h))
  have BS' : Hd (Blk W3 w.heap.size #[(.slice ba bn bc), (.int .i64 ac), (.int .u64 (k : Int)), (.int .i64 i)] 57) := hid (blk_keep BS.out hk (fun h => h))
  have BF' : Hd (Blk W3 b_BF #[(.int .i64 f.q), (.int .i64 i), (.bool f.u), (.slice a m c), (.int .u64 (f.t : Int))] 25) := hid (blk_keep BF.out hk (fun h => h))
  have BR1' : Hd (Blk W3 b_BR1 #[(.int .i64 0), (.int .i64 0), (.bool false), (.slice none 0 0), (.int .u64 0)] 25) := hid (blk_keep BR1.out hk (fun h => h))
  have BR2' : Hd (Blk W3 b_BR2 #[(.slice none 0 0), (.int .i64 0), (.int .u64 0), (.int .i64 0)] 57) := hid (blk_keep BR2.out hk (fun h => h))
  clear HX BS BF BR1 BR2
  have HX := HX'
  clear HX'
  have BS := BS'
  clear BS'
  have BF := BF'
  clear BF'
  have BR1 := BR1'
  clear BR1'
  have BR2 := BR2'
  clear BR2'
  have HK' : Hd (Keeps (fun _ => False) w W3) := hid (HK.out.trans hk)
  clear HK
  have HK := HK'
  clear HK'
  have z_W3 := hk.size
  clear hk
  clear HCS HCL
  have ltS := blk_lt BS.out
  have ltF := blk_lt BF.out
  have lt1 := blk_lt BR1.out
  have lt2 := blk_lt BR2.out
  have o_BF_4 : W3.cell? ⟨b_BF, 4, none⟩ = some ((.int .u64 (f.t : Int))) := blk_cell BF.out 4
  have f_BF_4 : W3.frozen? ⟨b_BF, 4, none⟩ = false := blk_free BF.out 4
  go_upto_region 4 with fail
  clear o_BF_4 f_BF_4
  generalize hW : World.setCell W3 _ _ = W4
  have KS : Hd (Keeps (fun b => b = b_BF) W3 W4) := hid (by rw [← hW]; exact (Keeps.setCell (S := fun b => b = b_BF) (p := ⟨b_BF, 4, none⟩) (Keeps.refl (fun b => b = b_BF) W3) (.inl rfl) _))
  have HX' : Hd (Sl (fun b => b < w.heap.size) W4 (.slice a m c) (u8s f.b)) := hid (HX.out.keep KS.out (fun b h1 h2 h3 => by omega))
  have BS' : Hd (Blk W4 w.heap.size #[(.slice ba bn bc), (.int .i64 ac), (.int .u64 (k : Int)), (.int .i64 i)] 57) := hid (by rw [← hW]; exact (blk_other BS.out (by omega) _ _))
  have BF' : Hd (Blk W4 b_BF #[(.int .i64 f.q), (.int .i64 i), (.bool f.u), (.slice a m c), (.int .u64 (t : Int))] 25) := hid (by rw [← hW]; exact (blk_set BF.out 4 _))
  have BR1' : Hd (Blk W4 b_BR1 #[(.int .i64 0), (.int .i64 0), (.bool false), (.slice none 0 0), (.int .u64 0)] 25) := hid (by rw [← hW]; exact (blk_other BR1.out (by omega) _ _))
  have BR2' : Hd (Blk W4 b_BR2 #[(.slice none 0 0), (.int .i64 0), (.int .u64 0), (.int .i64 0)] 57) := hid (by rw [← hW]; exact (blk_other BR2.out (by omega) _ _))
  have B_K' : Hd (Blk W4 b_K #[(.int .u64 (s : Int)), (.int .i64 (i + 1))] 33) := hid (by rw [← hW]; exact (blk_other B_K.out (by omega) _ _))
  clear HX BS BF BR1 BR2 B_K
  have HX := HX'
  clear HX'
  have BS := BS'
  clear BS'
  have BF := BF'
  clear BF'
  have BR1 := BR1'
  clear BR1'
  have BR2 := BR2'
  clear BR2'
  have B_K := B_K'
  clear B_K'
  have HK' : Hd (Keeps (fun _ => False) w W4) := hid (HK.out.trans' KS.out (fun i hi h => by omega))
  clear HK
  have HK := HK'
  clear HK'
  have z_W4 : W3.heap.size + 0 ≤ W4.heap.size := by rw [← hW]; simp
  clear hW KS
  have o_B_K_0 : W4.cell? ⟨b_K, 0, none⟩ = some ((.int .u64 (s : Int))) := blk_cell B_K.out 0
  have o_B_K_1 : W4.cell? ⟨b_K, 1, none⟩ = some ((.int .i64 (i + 1))) := blk_cell B_K.out 1
  have o_BS_2 : W4.cell? ⟨w.heap.size, 2, none⟩ = some ((.int .u64 (k : Int))) := blk_cell BS.out 2
  have o_BS_3 : W4.cell? ⟨w.heap.size, 3, none⟩ = some ((.int .i64 i)) := blk_cell BS.out 3
  have f_BS_2 : W4.frozen? ⟨w.heap.size, 2, none⟩ = false := blk_free BS.out 2
  have f_BS_3 : W4.frozen? ⟨w.heap.size, 3, none⟩ = false := blk_free BS.out 3
  go_upto_region 5 with fail
  clear o_B_K_0 o_B_K_1 o_BS_2 o_BS_3 f_BS_2 f_BS_3
  generalize hW : World.setCell (World.setCell W4 _ _) _ _ = W5
  have KS : Hd (Keeps (fun b => b = w.heap.size) W4 W5) := hid (by rw [← hW]; exact (Keeps.setCell (S := fun b => b = w.heap.size) (p := ⟨w.heap.size, 3, none⟩) (Keeps.setCell (S := fun b => b = w.heap.size) (p := ⟨w.heap.size, 2, none⟩) (Keeps.refl (fun b => b = w.heap.size) W4) (.inl rfl) _) (.inl rfl) _))
  have HX' : Hd (Sl (fun b => b < w.heap.size) W5 (.slice a m c) (u8s f.b)) := hid (HX.out.keep KS.out (fun b h1 h2 h3 => by omega))
  have BS' : Hd (Blk W5 w.heap.size #[(.slice ba bn bc), (.int .i64 ac), (.int .u64 (s : Int)), (.int .i64 (i + 1))] 57) := hid (by rw [← hW]; exact (blk_set (blk_set BS.out 2 _) 3 _))
  have BF' : Hd (Blk W5 b_BF #[(.int .i64 f.q), (.int .i64 i), (.bool f.u), (.slice a m c), (.int .u64 (t : Int))] 25) := hid (by rw [← hW]; exact (blk_other (blk_other BF.out (by omega) _ _) (by omega) _ _))
  have BR1' : Hd (Blk W5 b_BR1 #[(.int .i64 0), (.int .i64 0), (.bool false), (.slice none 0 0), (.int .u64 0)] 25) := hid (by rw [← hW]; exact (blk_other (blk_other BR1.out (by omega) _ _) (by omega) _ _))
  have BR2' : Hd (Blk W5 b_BR2 #[(.slice none 0 0), (.int .i64 0), (.int .u64 0), (.int .i64 0)] 57) := hid (by rw [← hW]; exact (blk_other (blk_other BR2.out (by omega) _ _) (by omega) _ _))
  have B_K' : Hd (Blk W5 b_K #[(.int .u64 (s : Int)), (.int .i64 (i + 1))] 33) := hid (by rw [← hW]; exact (blk_other (blk_other B_K.out (by omega) _ _) (by omega) _ _))
  clear HX BS BF BR1 BR2 B_K
  have HX := HX'
  clear HX'
  have BS := BS'
  clear BS'
  have BF := BF'
  clear BF'
  have BR1 := BR1'
  clear BR1'
  have BR2 := BR2'
  clear BR2'
  have B_K := B_K'
  clear B_K'
  have HK' : Hd (Keeps (fun _ => False) w W5) := hid (HK.out.trans' KS.out (fun i hi h => by omega))
  clear HK
  have HK := HK'
  clear HK'
  have z_W5 : W4.heap.size + 0 ≤ W5.heap.size := by rw [← hW]; simp
  clear hW KS
  go_upto_region 5 with fail
  go_cut [] from 24 to 25 (fun wx => Hd (Blk wx b_BR1 #[(.int .i64 f.q), (.int .i64 i), (.bool f.u), (.slice a m c), (.int .u64 (t : Int))] 25) ∧ Hd (Blk wx b_BR2 #[(.slice ba bn bc), (.int .i64 ac), (.int .u64 (s : Int)), (.int .i64 (i + 1))] 57) ∧ Hd (Keeps (fun b => b = b_BR1 ∨ b = b_BR2) W5 wx))
  case first =>
    have KC : Hd (Keeps (fun _ => False) W5 W5) := hid (Keeps.refl _ _)
    have HSS : Hd (∀ w', Keeps (fun b => b = b_BR1 ∨ b = b_BR2) W5 w' → (w'.cell? ⟨b_BF, 0, none⟩ = some ((.int .i64 f.q)) ∧ w'.cell? ⟨b_BF, 1, none⟩ = some ((.int .i64 i)) ∧ w'.cell? ⟨b_BF, 2, none⟩ = some ((.bool f.u)) ∧ w'.cell? ⟨b_BF, 3, none⟩ = some ((.slice a m c)) ∧ w'.cell? ⟨b_BF, 4, none⟩ = some ((.int .u64 (t : Int))) ∧ w'.cell? ⟨w.heap.size, 0, none⟩ = some ((.slice ba bn bc)) ∧ w'.cell? ⟨w.heap.size, 1, none⟩ = some ((.int .i64 ac)) ∧ w'.cell? ⟨w.heap.size, 2, none⟩ = some ((.int .u64 (s : Int))) ∧ w'.cell? ⟨w.heap.size, 3, none⟩ = some ((.int .i64 (i + 1))))) := hid (fun w' hk => ⟨blk_cell (blk_keep BF.out hk (fun h => by omega)) 0, blk_cell (blk_keep BF.out hk (fun h => by omega)) 1, blk_cell (blk_keep BF.out hk (fun h => by omega)) 2, blk_cell (blk_keep BF.out hk (fun h => by omega)) 3, blk_cell (blk_keep BF.out hk (fun h => by omega)) 4, blk_cell (blk_keep BS.out hk (fun h => by omega)) 0, blk_cell (blk_keep BS.out hk (fun h => by omega)) 1, blk_cell (blk_keep BS.out hk (fun h => by omega)) 2, blk_cell (blk_keep BS.out hk (fun h => by omega)) 3⟩)
    have sF_BR1_0 : W5.cell? ⟨b_BR1, 0, none⟩ = some ((.int .i64 0)) := blk_cell (blk_keep BR1.out KC.out (fun h => h)) 0
    have sG_BR1_0 : W5.frozen? ⟨b_BR1, 0, none⟩ = false := blk_free (blk_keep BR1.out KC.out (fun h => h)) 0
    have sF_BR1_1 : W5.cell? ⟨b_BR1, 1, none⟩ = some ((.int .i64 0)) := blk_cell (blk_keep BR1.out KC.out (fun h => h)) 1
    have sG_BR1_1 : W5.frozen? ⟨b_BR1, 1, none⟩ = false := blk_free (blk_keep BR1.out KC.out (fun h => h)) 1
    have sF_BR1_2 : W5.cell? ⟨b_BR1, 2, none⟩ = some ((.bool false)) := blk_cell (blk_keep BR1.out KC.out (fun h => h)) 2
    have sG_BR1_2 : W5.frozen? ⟨b_BR1, 2, none⟩ = false := blk_free (blk_keep BR1.out KC.out (fun h => h)) 2
    have sF_BR1_3 : W5.cell? ⟨b_BR1, 3, none⟩ = some ((.slice none 0 0)) := blk_cell (blk_keep BR1.out KC.out (fun h => h)) 3
    have sG_BR1_3 : W5.frozen? ⟨b_BR1, 3, none⟩ = false := blk_free (blk_keep BR1.out KC.out (fun h => h)) 3
    have sF_BR1_4 : W5.cell? ⟨b_BR1, 4, none⟩ = some ((.int .u64 0)) := blk_cell (blk_keep BR1.out KC.out (fun h => h)) 4
    have sG_BR1_4 : W5.frozen? ⟨b_BR1, 4, none⟩ = false := blk_free (blk_keep BR1.out KC.out (fun h => h)) 4
    have sF_BR2_0 : W5.cell? ⟨b_BR2, 0, none⟩ = some ((.slice none 0 0)) := blk_cell (blk_keep BR2.out KC.out (fun h => h)) 0
    have sG_BR2_0 : W5.frozen? ⟨b_BR2, 0, none⟩ = false := blk_free (blk_keep BR2.out KC.out (fun h => h)) 0
    have sF_BR2_1 : W5.cell? ⟨b_BR2, 1, none⟩ = some ((.int .i64 0)) := blk_cell (blk_keep BR2.out KC.out (fun h => h)) 1
    have sG_BR2_1 : W5.frozen? ⟨b_BR2, 1, none⟩ = false := blk_free (blk_keep BR2.out KC.out (fun h => h)) 1
    have sF_BR2_2 : W5.cell? ⟨b_BR2, 2, none⟩ = some ((.int .u64 0)) := blk_cell (blk_keep BR2.out KC.out (fun h => h)) 2
    have sG_BR2_2 : W5.frozen? ⟨b_BR2, 2, none⟩ = false := blk_free (blk_keep BR2.out KC.out (fun h => h)) 2
    have sF_BR2_3 : W5.cell? ⟨b_BR2, 3, none⟩ = some ((.int .i64 0)) := blk_cell (blk_keep BR2.out KC.out (fun h => h)) 3
    have sG_BR2_3 : W5.frozen? ⟨b_BR2, 3, none⟩ = false := blk_free (blk_keep BR2.out KC.out (fun h => h)) 3
    have sL_BF_0 : W5.cell? ⟨b_BF, 0, none⟩ = some ((.int .i64 f.q)) := blk_cell (blk_keep BF.out KC.out (fun h => h)) 0
    have sL_BF_1 : W5.cell? ⟨b_BF, 1, none⟩ = some ((.int .i64 i)) := blk_cell (blk_keep BF.out KC.out (fun h => h)) 1
    have sL_BF_2 : W5.cell? ⟨b_BF, 2, none⟩ = some ((.bool f.u)) := blk_cell (blk_keep BF.out KC.out (fun h => h)) 2
    have sL_BF_3 : W5.cell? ⟨b_BF, 3, none⟩ = some ((.slice a m c)) := blk_cell (blk_keep BF.out KC.out (fun h => h)) 3
    have sL_BF_4 : W5.cell? ⟨b_BF, 4, none⟩ = some ((.int .u64 (t : Int))) := blk_cell (blk_keep BF.out KC.out (fun h => h)) 4
    have sL_BS_0 : W5.cell? ⟨w.heap.size, 0, none⟩ = some ((.slice ba bn bc)) := blk_cell (blk_keep BS.out KC.out (fun h => h)) 0
    have sL_BS_1 : W5.cell? ⟨w.heap.size, 1, none⟩ = some ((.int .i64 ac)) := blk_cell (blk_keep BS.out KC.out (fun h => h)) 1
    have sL_BS_2 : W5.cell? ⟨w.heap.size, 2, none⟩ = some ((.int .u64 (s : Int))) := blk_cell (blk_keep BS.out KC.out (fun h => h)) 2
    have sL_BS_3 : W5.cell? ⟨w.heap.size, 3, none⟩ = some ((.int .i64 (i + 1))) := blk_cell (blk_keep BS.out KC.out (fun h => h)) 3
    have LB_BR1 : ∀ X, Blk X b_BR1 #[(.int .i64 0), (.int .i64 0), (.bool false), (.slice none 0 0), (.int .u64 0)] 25 → Blk (((((X.setCell ⟨b_BR1, 0, none⟩ (.int .i64 f.q)).setCell ⟨b_BR1, 1, none⟩ (.int .i64 i)).setCell ⟨b_BR1, 2, none⟩ (.bool f.u)).setCell ⟨b_BR1, 3, none⟩ (.slice a m c)).setCell ⟨b_BR1, 4, none⟩ (.int .u64 (t : Int))) b_BR1 #[(.int .i64 f.q), (.int .i64 i), (.bool f.u), (.slice a m c), (.int .u64 (t : Int))] 25 := fun X h => (blk_set (blk_set (blk_set (blk_set (blk_set h 0 _) 1 _) 2 _) 3 _) 4 _)
    have LO_BR2_BR1 : ∀ X cs T, Blk X b_BR1 cs T → Blk ((((X.setCell ⟨b_BR2, 0, none⟩ (.slice ba bn bc)).setCell ⟨b_BR2, 1, none⟩ (.int .i64 ac)).setCell ⟨b_BR2, 2, none⟩ (.int .u64 (s : Int))).setCell ⟨b_BR2, 3, none⟩ (.int .i64 (i + 1))) b_BR1 cs T := fun X cs T h => (blk_other (blk_other (blk_other (blk_other h (by omega) _ _) (by omega) _ _) (by omega) _ _) (by omega) _ _)
    have LB_BR2 : ∀ X, Blk X b_BR2 #[(.slice none 0 0), (.int .i64 0), (.int .u64 0), (.int .i64 0)] 57 → Blk ((((X.setCell ⟨b_BR2, 0, none⟩ (.slice ba bn bc)).setCell ⟨b_BR2, 1, none⟩ (.int .i64 ac)).setCell ⟨b_BR2, 2, none⟩ (.int .u64 (s : Int))).setCell ⟨b_BR2, 3, none⟩ (.int .i64 (i + 1))) b_BR2 #[(.slice ba bn bc), (.int .i64 ac), (.int .u64 (s : Int)), (.int .i64 (i + 1))] 57 := fun X h => (blk_set (blk_set (blk_set (blk_set h 0 _) 1 _) 2 _) 3 _)
    have LO_BR1_BR2 : ∀ X cs T, Blk X b_BR2 cs T → Blk (((((X.setCell ⟨b_BR1, 0, none⟩ (.int .i64 f.q)).setCell ⟨b_BR1, 1, none⟩ (.int .i64 i)).setCell ⟨b_BR1, 2, none⟩ (.bool f.u)).setCell ⟨b_BR1, 3, none⟩ (.slice a m c)).setCell ⟨b_BR1, 4, none⟩ (.int .u64 (t : Int))) b_BR2 cs T := fun X cs T h => (blk_other (blk_other (blk_other (blk_other (blk_other h (by omega) _ _) (by omega) _ _) (by omega) _ _) (by omega) _ _) (by omega) _ _)
    go_region
    all_goals
      go_wp2_with fail
      go_meet
      exact ⟨hid (by repeat (first | (with_reducible refine LB_BR1 _ ?_) | (with_reducible refine blk_other ?_ (by first | omega | (simp only [World.size_alloc, World.size_drew]; omega) | fail) _ _) | (with_reducible apply blk_drewN) | (with_reducible apply blk_drew) | (with_reducible refine blk_alloc ?_ _) | (with_reducible exact blk_keep BR1.out KC.out (fun h => h)))), hid (by repeat (first | (with_reducible refine LB_BR2 _ ?_) | (with_reducible refine blk_other ?_ (by first | omega | (simp only [World.size_alloc, World.size_drew]; omega) | fail) _ _) | (with_reducible apply blk_drewN) | (with_reducible apply blk_drew) | (with_reducible refine blk_alloc ?_ _) | (with_reducible exact blk_keep BR2.out KC.out (fun h => h)))), hid (by repeat (first | (with_reducible refine Keeps.setCell (S := fun b => b = b_BR1 ∨ b = b_BR2) ?_ (.inl (by first | (with_reducible rfl) | (simp <;> fail) | fail)) _) | (with_reducible apply Keeps.drewN) | (with_reducible apply Keeps.drew) | (with_reducible exact KC.out) | (with_reducible exact Keeps.refl _ _) | (with_reducible exact KC.out.mono (fun _ _ h => h.elim))))⟩
  case rest =>
    obtain ⟨N_BR1, N_BR2, hk⟩ := hcut
    replace hk := hk.out
    generalize wc = W6 at *
    have HX' : Hd (Sl (fun b => b < w.heap.size) W6 (.slice a m c) (u8s f.b)) := hid (HX.out.keep hk (fun b h1 h2 h3 => by omega))
    have BS' : Hd (Blk W6 w.heap.size #[(.slice ba bn bc), (.int .i64 ac), (.int .u64 (s : Int)), (.int .i64 (i + 1))] 57) := hid (blk_keep BS.out hk (fun h => by omega))
    have BF' : Hd (Blk W6 b_BF #[(.int .i64 f.q), (.int .i64 i), (.bool f.u), (.slice a m c), (.int .u64 (t : Int))] 25) := hid (blk_keep BF.out hk (fun h => by omega))
    have B_K' : Hd (Blk W6 b_K #[(.int .u64 (s : Int)), (.int .i64 (i + 1))] 33) := hid (blk_keep B_K.out hk (fun h => by omega))
    clear HX BS BF B_K
    have HX := HX'
    clear HX'
    have BS := BS'
    clear BS'
    have BF := BF'
    clear BF'
    have B_K := B_K'
    clear B_K'
    clear BR1
    have BR1 := N_BR1
    clear N_BR1
    clear BR2
    have BR2 := N_BR2
    clear N_BR2
    have HK' : Hd (Keeps (fun _ => False) w W6) := hid (HK.out.trans' hk (fun i hi h => by omega))
    clear HK
    have HK := HK'
    clear HK'
    have z_W6 := hk.size
    clear hk
    go_wp2
    have rr_BR1_0 := blk_cell BR1.out 0
    have rr_BR1_1 := blk_cell BR1.out 1
    have rr_BR1_2 := blk_cell BR1.out 2
    have rr_BR1_3 := blk_cell BR1.out 3
    have rr_BR1_4 := blk_cell BR1.out 4
    have rr_BR2_0 := blk_cell BR2.out 0
    have rr_BR2_1 := blk_cell BR2.out 1
    have rr_BR2_2 := blk_cell BR2.out 2
    have rr_BR2_3 := blk_cell BR2.out 3
    refine bodyPost_ret (v := .tuple #[.agg #[(.int .i64 f.q), (.int .i64 i), (.bool f.u), (.slice a m c), (.int .u64 (t : Int))], .agg #[(.slice ba bn bc), (.int .i64 ac), (.int .u64 (s : Int)), (.int .i64 (i + 1))]]) (by simp [results, Tryd.results76, go_sem, rr_BR1_0, rr_BR1_1, rr_BR1_2, rr_BR1_3, rr_BR1_4, rr_BR2_0, rr_BR2_1, rr_BR2_2, rr_BR2_3]) rfl ?_
    exact ⟨rfl, HK.out⟩
set_option maxRecDepth 100000 in set_option maxHeartbeats 1000000 in
theorem RQueue_no (ba : Option Addr) (bn bc : Nat) (ac : Int) (k : Nat) (i : Int) (body : List Nat) (a : Option Addr) (c : Nat) (w : World) (hb : 512 < body.length) :
    Calls Tryd.prog 37 #[.agg #[.slice ba bn bc, .int .i64 ac, .int .u64 (k : Int), .int .i64 i], .slice a body.length c] w fun e w' => e = .returned (.tuple #[.agg #[.slice none 0 0, .int .i64 0, .int .u64 0, .int .i64 0], .int .i64 2]) ∧ Keeps (fun _ => False) w w' := by
  have q0 : (512 : Int) < body.length := by omega
  generalize body.length = n at *
  go_enter Tryd.func37, Tryd.ntmps37
  go_upto_region 1 with fail
  generalize hW : World.alloc (World.alloc w _) _ = W1
  have KS : Hd (Keeps (fun _ => False) w W1) := hid (by rw [← hW]; exact (Keeps.alloc (Keeps.alloc (Keeps.refl (fun _ => False) w) _) _))
  have BS : Hd (Blk W1 w.heap.size #[(.slice ba bn bc), (.int .i64 ac), (.int .u64 (k : Int)), (.int .i64 i)] 57) := hid (by rw [← hW]; exact (blk_alloc (blk_new _ _ _) _))
  have BR : Hd (Blk W1 (w.heap.size + 1) #[(.slice none 0 0), (.int .i64 0), (.int .u64 0), (.int .i64 0)] 57) := hid (by rw [← hW]; exact (blk_new' _ _ _ _ (by simp)))
  have HK : Hd (Keeps (fun _ => False) w W1) := hid KS.out
  have z_W1 : w.heap.size + 2 ≤ W1.heap.size := by rw [← hW]; simp
  clear hW KS
  have o_BR_0 : W1.cell? ⟨w.heap.size + 1, 0, none⟩ = some ((.slice none 0 0)) := blk_cell BR.out 0
  have o_BR_1 : W1.cell? ⟨w.heap.size + 1, 1, none⟩ = some ((.int .i64 0)) := blk_cell BR.out 1
  have o_BR_2 : W1.cell? ⟨w.heap.size + 1, 2, none⟩ = some ((.int .u64 0)) := blk_cell BR.out 2
  have o_BR_3 : W1.cell? ⟨w.heap.size + 1, 3, none⟩ = some ((.int .i64 0)) := blk_cell BR.out 3
  have f_BR_0 : W1.frozen? ⟨w.heap.size + 1, 0, none⟩ = false := blk_free BR.out 0
  have f_BR_1 : W1.frozen? ⟨w.heap.size + 1, 1, none⟩ = false := blk_free BR.out 1
  have f_BR_2 : W1.frozen? ⟨w.heap.size + 1, 2, none⟩ = false := blk_free BR.out 2
  have f_BR_3 : W1.frozen? ⟨w.heap.size + 1, 3, none⟩ = false := blk_free BR.out 3
  go_wp2
  clear o_BR_0 o_BR_1 o_BR_2 o_BR_3 f_BR_0 f_BR_1 f_BR_2 f_BR_3
  obtain ⟨HV2, B3⟩ := fin4 HK.out (show w.heap.size ≤ w.heap.size + 1 by omega) BR.out (.slice none 0 0) (.int .i64 0) (.int .u64 0) (.int .i64 0)
  have r0 := blk_cell B3 0
  have r1 := blk_cell B3 1
  have r2 := blk_cell B3 2
  have r3 := blk_cell B3 3
  refine bodyPost_ret (v := .tuple #[.agg #[(.slice none 0 0), (.int .i64 0), (.int .u64 0), (.int .i64 0)], .int .i64 2]) (by simp [results, Tryd.results37, go_sem, r0, r1, r2, r3]) rfl ?_
  exact ⟨rfl, HV2⟩
set_option maxRecDepth 100000 in set_option maxHeartbeats 1000000 in
theorem RQueue_ok (bs : List (List Nat)) (ba : Option Addr) (bc : Nat) (ac : Int) (k : Nat) (i : Int) (body : List Nat) (K K2 : Nat → Prop) (a : Option Addr) (c : Nat) (w : World) (hv : Bds K w (.slice ba bs.length bc) bs) (hn : bs.length ≤ 100000) (hb : body.length ≤ 512) (hs : Sl K2 w (.slice a body.length c) (u8s body)) :
    Calls Tryd.prog 37 #[.agg #[.slice ba bs.length bc, .int .i64 ac, .int .u64 (k : Int), .int .i64 i], .slice a body.length c] w fun e w' => ∃ a2 c2, e = .returned (.tuple #[.agg #[.slice a2 (bs.length + 1) c2, .int .i64 ac, .int .u64 (k : Int), .int .i64 i], .int .i64 0]) ∧ Bds (fun b => K b ∨ K2 b ∨ w.heap.size ≤ b) w' (.slice a2 (bs.length + 1) c2) (bs ++ [body]) ∧ Keeps (fun _ => False) w w' := by
  obtain ⟨i0, hi, hz0, hz1, hz2⟩ := parts1 infoBd
  have HV := hid (hv.mono (K' := fun b => (K b ∨ K2 b) ∧ b < w.heap.size) (fun b h h2 => ⟨.inl h2, h⟩))
  have HS := hid (hs.mono (K' := fun b => (K b ∨ K2 b) ∧ b < w.heap.size) (fun b h h2 => ⟨.inr h2, h⟩))
  clear hv hs
  obtain ⟨n, hnn⟩ : ∃ n, bs.length = n := ⟨_, rfl⟩
  have HN := hid hnn
  rw [hnn] at HV hn ⊢
  clear hnn
  obtain ⟨m, hm⟩ : ∃ m, body.length = m := ⟨_, rfl⟩
  have HM := hid hm
  rw [hm] at HS hb ⊢
  clear hm
  have q0 : ¬ ((512 : Int) < m) := by omega
  go_enter Tryd.func37, Tryd.ntmps37
  go_upto_region 1 with fail
  generalize hW : World.alloc (World.alloc w _) _ = W1
  have KS : Hd (Keeps (fun _ => False) w W1) := hid (by rw [← hW]; exact (Keeps.alloc (Keeps.alloc (Keeps.refl (fun _ => False) w) _) _))
  have HV' : Hd (Bds (fun b => (K b ∨ K2 b) ∧ b < w.heap.size) W1 (.slice ba n bc) bs) := hid (HV.out.keep KS.out (fun _ _ _ h => h))
  have HS' : Hd (Sl (fun b => (K b ∨ K2 b) ∧ b < w.heap.size) W1 (.slice a m c) (u8s body)) := hid (HS.out.keep KS.out (fun _ _ _ h => h))
  have BS : Hd (Blk W1 w.heap.size #[(.slice ba n bc), (.int .i64 ac), (.int .u64 (k : Int)), (.int .i64 i)] 57) := hid (by rw [← hW]; exact (blk_alloc (blk_new _ _ _) _))
  have BR : Hd (Blk W1 (w.heap.size + 1) #[(.slice none 0 0), (.int .i64 0), (.int .u64 0), (.int .i64 0)] 57) := hid (by rw [← hW]; exact (blk_new' _ _ _ _ (by simp)))
  clear HV HS
  have HV := HV'
  clear HV'
  have HS := HS'
  clear HS'
  have HK : Hd (Keeps (fun _ => False) w W1) := hid KS.out
  have z_W1 : w.heap.size + 2 ≤ W1.heap.size := by rw [← hW]; simp
  clear hW KS
  have o_BS_0 : W1.cell? ⟨w.heap.size, 0, none⟩ = some ((.slice ba n bc)) := blk_cell BS.out 0
  obtain ⟨xs, hrow, hxb⟩ := HV.out
  rw [HN.out] at hrow
  have HROW := hid hrow; have HXB := hid hxb
  clear hrow hxb
  go_wp2_with (at_builtin; refine wpList_append_row rfl _ _ 43 rfl 22 i0 (.slice none 0 0) 1 24 Tryd.underlying43 hi hz0 hz1 hz2 rfl (by decide) _ (fun b => (K b ∨ K2 b) ∧ b < w.heap.size) _ _ _ _ rfl (Own.nil (fun b => (Value.slice none 0 0).ownBlock = some b) _ _ _) n _ rfl HROW.out (HXB.out.ones) ?h1 ?h2 ?_)
  case h1 => simp [maxLen]; omega
  case h2 => omega
  intro a1 c1 w1 hown hgrow; try intro _
  try simp only [Nat.zero_add] at hown ⊢
  have HRN : Hd (∀ b, (Value.slice a1 n c1).ownBlock = some b → W1.heap.size ≤ b) := hid (fun b hb => by rcases hown.2 b hb with h | h; simp [Value.ownBlock] at h; exact h)
  have HP : Hd (BdP (fun b => (K b ∨ K2 b) ∧ b < w.heap.size) w.heap.size w1 (.slice a1 n c1) bs) := hid (by
    have h := bdp_append (KD := (fun b => (K b ∨ K2 b) ∧ b < w.heap.size)) (B := w.heap.size) (wr := W1) (V := W1) (w7 := w1) (v := .slice none 0 0) (v7 := .slice a1 n c1) (l := []) (m := bs) (xs := []) (ns := xs) (fun b h => by simp [Value.ownBlock] at h) (BdL.nil _ _) (Keeps.refl _ _) (HXB.out.mono (fun b _ h => ⟨h, by simp [Value.ownBlock]⟩)) (by omega) (by rw [HN.out]; first | exact hown | simpa using hown) (by first | exact hgrow | exact hgrow.mono (fun _ _ h => h))
    simpa using h)
  have hk : Keeps (fun _ => False) W1 w1 := hgrow.mono (fun b _ h => by simp [Value.ownBlock] at h)
  clear hown hgrow HROW HXB HV
  clear o_BS_0
  have HS' : Hd (Sl (fun b => (K b ∨ K2 b) ∧ b < w.heap.size) w1 (.slice a m c) (u8s body)) := hid (HS.out.keep hk (fun _ _ _ h => h))
  have BS' : Hd (Blk w1 w.heap.size #[(.slice ba n bc), (.int .i64 ac), (.int .u64 (k : Int)), (.int .i64 i)] 57) := hid (blk_keep BS.out hk (fun h => h))
  have BR' : Hd (Blk w1 (w.heap.size + 1) #[(.slice none 0 0), (.int .i64 0), (.int .u64 0), (.int .i64 0)] 57) := hid (blk_keep BR.out hk (fun h => h))
  clear HS BS BR
  have HS := HS'
  clear HS'
  have BS := BS'
  clear BS'
  have BR := BR'
  clear BR'
  have HK' : Hd (Keeps (fun _ => False) w w1) := hid (HK.out.trans hk)
  clear HK
  have HK := HK'
  clear HK'
  have z_w1 := hk.size
  clear hk
  have hltO : ∀ b, (Value.slice a1 n c1).ownBlock = some b → b < w1.heap.size := bdp_lt HP.out
  obtain ⟨ys, hO, hge, hB⟩ := HP.out
  rw [HN.out] at hO
  have HOX := hid hO; have HGE := hid hge; have HBX := hid hB; have HLT := hid hltO
  clear hO hge hB hltO
  have o_BS_0 : w1.cell? ⟨w.heap.size, 0, none⟩ = some ((.slice ba n bc)) := blk_cell BS.out 0
  have f_BS_0 : w1.frozen? ⟨w.heap.size, 0, none⟩ = false := blk_free BS.out 0
  go_wp2_with (at_builtin; refine wpList_append_row rfl _ _ 43 rfl 22 i0 (.slice none 0 0) 1 24 Tryd.underlying43 hi hz0 hz1 hz2 rfl (by decide) _ (fun _ => True) _ _ _ _ rfl (HOX.out.alloc _) 1 _ rfl (one_src _ _ _) (by intro u hu; simp at hu; subst hu; rfl) ?h1 ?h2 ?_)
  case h1 => simp [maxLen]; omega
  case h2 => omega
  intro a3 c3 w2 hown hgrow; try intro _
  have HN3 : Hd (∀ b, (Value.slice a3 (n + 1) c3).ownBlock = some b → W1.heap.size ≤ b) := hid (fun b hb => by rcases hown.2 b hb with h | h; exact HRN.out b h; (have h' := h; (try simp at h'); omega))
  have HO1 : Hd (BdP (fun b => (K b ∨ K2 b) ∧ b < w.heap.size) w.heap.size w2 (.slice a3 (n + 1) c3) (bs ++ [body])) := hid (by
    refine bdp_append (v := .slice a1 n c1) (ns := [.slice a m c]) HGE.out HBX.out (keeps_alloc _ _ (.cells #[.slice a m c] 22)) (BdL.one ((HS.out.keep (keeps_alloc (fun _ => False) _ _) (fun _ _ _ h => h)).mono (fun b _ h => ⟨h, fun e => by have := HGE.out b e; have := h.2; omega⟩))) (by simp; omega) ?_ (by first | exact hgrow | exact hgrow.mono (fun _ _ h => h))
    rw [HN.out]
    first | exact hown | simpa using hown)
  have hk : Keeps (fun b => (Value.slice a1 n c1).ownBlock = some b) w1 w2 := (keeps_alloc _ _ (.cells #[.slice a m c] 22)).trans hgrow
  skip
  clear hown hgrow HP
  clear o_BS_0 f_BS_0
  have hnS : ∀ b, (Value.slice a1 n c1).ownBlock = some b → W1.heap.size ≤ b := HRN.out
  have BS' := hid (blk_keep BS.out hk (fun h => by have := hnS _ h; omega))
  have BR' := hid (blk_keep BR.out hk (fun h => by have := hnS _ h; omega))
  have HK' : Hd (Keeps (fun _ => False) w w2) := hid (HK.out.trans' hk (fun i hi h => by have := hnS _ h; omega))
  have zw2 := hk.size
  clear BS BR HK HS hk hnS HGE HOX HBX HLT
  have BS := BS'; have BR := BR'; have HK := HK'
  clear BS' BR' HK'
  have o_BS_0 : w2.cell? ⟨w.heap.size, 0, none⟩ = some ((.slice ba n bc)) := blk_cell BS.out 0
  have o_BS_1 : w2.cell? ⟨w.heap.size, 1, none⟩ = some ((.int .i64 ac)) := blk_cell BS.out 1
  have o_BS_2 : w2.cell? ⟨w.heap.size, 2, none⟩ = some ((.int .u64 (k : Int))) := blk_cell BS.out 2
  have o_BS_3 : w2.cell? ⟨w.heap.size, 3, none⟩ = some ((.int .i64 i)) := blk_cell BS.out 3
  have f_BS_0 : w2.frozen? ⟨w.heap.size, 0, none⟩ = false := blk_free BS.out 0
  have f_BS_1 : w2.frozen? ⟨w.heap.size, 1, none⟩ = false := blk_free BS.out 1
  have f_BS_2 : w2.frozen? ⟨w.heap.size, 2, none⟩ = false := blk_free BS.out 2
  have f_BS_3 : w2.frozen? ⟨w.heap.size, 3, none⟩ = false := blk_free BS.out 3
  go_upto_region 6 with fail
  clear o_BS_0 o_BS_1 o_BS_2 o_BS_3 f_BS_0 f_BS_1 f_BS_2 f_BS_3
  generalize hW : World.setCell w2 _ _ = W9
  have ks : Keeps (fun b => b = w.heap.size) w2 W9 := by rw [← hW]; exact keeps_set _ _ _ _ rfl
  have BS' : Hd (Blk W9 w.heap.size #[(.slice a3 (n + 1) c3), (.int .i64 ac), (.int .u64 (k : Int)), (.int .i64 i)] 57) := hid (by rw [← hW]; exact blk_set BS.out 0 _)
  have BR' : Hd (Blk W9 (w.heap.size + 1) #[(.slice none 0 0), (.int .i64 0), (.int .u64 0), (.int .i64 0)] 57) := hid (blk_keep BR.out ks (by omega))
  have HK' : Hd (Keeps (fun _ => False) w W9) := hid (HK.out.trans' ks (fun i hi h => by omega))
  obtain ⟨zs, hO, hge, hB⟩ := HO1.out
  have hRS : Hd (Bds (fun b => (K b ∨ K2 b) ∧ b < w.heap.size ∨ (Value.slice a3 (n + 1) c3).ownBlock = some b) w2 (.slice a3 (n + 1) c3) (bs ++ [body])) := hid ⟨zs, hO.row.mono (fun b _ h => .inr h), hB.mono (fun b _ h => .inl h.1)⟩
  clear hO hge hB zs
  have HBD : Hd (Bds (fun b => (K b ∨ K2 b) ∧ b < w.heap.size ∨ (Value.slice a3 (n + 1) c3).ownBlock = some b) W9 (.slice a3 (n + 1) c3) (bs ++ [body])) := hid (hRS.out.keep ks (fun b _ h e => by rcases h with h | h; (have := h.2; omega); (have := HN3.out b h; omega)))
  have z9 := ks.size
  clear hW ks BS BR HK hRS
  have BS := BS'; have BR := BR'; have HK := HK'
  clear BS' BR' HK'
  have o_BS_0 : W9.cell? ⟨w.heap.size, 0, none⟩ = some ((.slice a3 (n + 1) c3)) := blk_cell BS.out 0
  have o_BS_1 : W9.cell? ⟨w.heap.size, 1, none⟩ = some ((.int .i64 ac)) := blk_cell BS.out 1
  have o_BS_2 : W9.cell? ⟨w.heap.size, 2, none⟩ = some ((.int .u64 (k : Int))) := blk_cell BS.out 2
  have o_BS_3 : W9.cell? ⟨w.heap.size, 3, none⟩ = some ((.int .i64 i)) := blk_cell BS.out 3
  have o_BR_0 : W9.cell? ⟨w.heap.size + 1, 0, none⟩ = some ((.slice none 0 0)) := blk_cell BR.out 0
  have o_BR_1 : W9.cell? ⟨w.heap.size + 1, 1, none⟩ = some ((.int .i64 0)) := blk_cell BR.out 1
  have o_BR_2 : W9.cell? ⟨w.heap.size + 1, 2, none⟩ = some ((.int .u64 0)) := blk_cell BR.out 2
  have o_BR_3 : W9.cell? ⟨w.heap.size + 1, 3, none⟩ = some ((.int .i64 0)) := blk_cell BR.out 3
  have f_BR_0 : W9.frozen? ⟨w.heap.size + 1, 0, none⟩ = false := blk_free BR.out 0
  have f_BR_1 : W9.frozen? ⟨w.heap.size + 1, 1, none⟩ = false := blk_free BR.out 1
  have f_BR_2 : W9.frozen? ⟨w.heap.size + 1, 2, none⟩ = false := blk_free BR.out 2
  have f_BR_3 : W9.frozen? ⟨w.heap.size + 1, 3, none⟩ = false := blk_free BR.out 3
  go_wp2
  clear o_BS_0 o_BS_1 o_BS_2 o_BS_3 o_BR_0 o_BR_1 o_BR_2 o_BR_3 f_BR_0 f_BR_1 f_BR_2 f_BR_3
  obtain ⟨HV2, B3⟩ := fin4 HK.out (show w.heap.size ≤ w.heap.size + 1 by omega) BR.out (.slice a3 (n + 1) c3) (.int .i64 ac) (.int .u64 (k : Int)) (.int .i64 i)
  have r0 := blk_cell B3 0
  have r1 := blk_cell B3 1
  have r2 := blk_cell B3 2
  have r3 := blk_cell B3 3
  refine bodyPost_ret (v := .tuple #[.agg #[(.slice a3 (n + 1) c3), (.int .i64 ac), (.int .u64 (k : Int)), (.int .i64 i)], .int .i64 0]) (by simp [results, Tryd.results37, go_sem, r0, r1, r2, r3]) rfl ?_
  exact ⟨a3, c3, rfl, (HBD.out.keep (keep4 _ (w.heap.size + 1) (.slice a3 (n + 1) c3) (.int .i64 ac) (.int .u64 (k : Int)) (.int .i64 i)) (fun b h1 h2 h3 => by subst h3; rcases h2 with h2 | h2; (have := h2.2; omega); (have := HN3.out _ h2; omega))).mono (fun b _ h => by rcases h with h | h; (rcases h.1 with h | h; exact .inl h; exact .inr (.inl h)); (have := HN3.out b h; exact .inr (.inr (by omega)))), HV2⟩
set_option maxRecDepth 100000 in set_option maxHeartbeats 1000000 in
theorem RUnlock_any (n : Nat) (ba : Option Addr) (bc : Nat) (ac : Int) (l : Ld) (q : Int) (w : World) (hl : l.ok) (hq0 : -9223372036854775808 ≤ q) (hq1 : q ≤ 9223372036854775807) :
    Calls Tryd.prog 43 #[.agg #[.slice ba n bc, .int .i64 ac, .int .u64 (l.k : Int), .int .i64 l.i], .int .i64 q] w fun e w' => e = .returned (.tuple #[.agg #[.int .i64 q, .int .i64 l.i, .bool true, .slice none 0 0, .int .u64 ((signF l ⟨q, 0, true, [], 0⟩).t : Int)], .agg #[.slice ba n bc, .int .i64 ac, .int .u64 ((nextL l).k : Int), .int .i64 (nextL l).i]]) ∧ Keeps (fun _ => False) w w' := by
  have hfo : (⟨q, 0, true, [], 0⟩ : Fr).ok := ⟨hq0, hq1, by show _ ≤ (0 : Int); omega, by show (0 : Int) ≤ _; omega, by simp, by show 0 < _; omega, by show 0 ≤ _; omega⟩
  have HSG : Hd (∀ X, Calls Tryd.prog 76 #[.agg #[.slice ba n bc, .int .i64 ac, .int .u64 (l.k : Int), .int .i64 l.i], .agg #[.int .i64 q, .int .i64 0, .bool true, .slice none 0 0, .int .u64 0]] X fun e w' => e = .returned (.tuple #[.agg #[.int .i64 q, .int .i64 l.i, .bool true, .slice none 0 0, .int .u64 ((signF l ⟨q, 0, true, [], 0⟩).t : Int)], .agg #[.slice ba n bc, .int .i64 ac, .int .u64 ((nextL l).k : Int), .int .i64 (nextL l).i]]) ∧ Keeps (fun _ => False) X w') := hid (fun X => Rsign_any l ⟨q, 0, true, [], 0⟩ ac ba n bc (fun _ => True) none 0 X hl hfo (Sl.nil _ _))
  obtain ⟨t, ht⟩ : ∃ t, (signF l ⟨q, 0, true, [], 0⟩).t = t := ⟨_, rfl⟩
  obtain ⟨⟨k5, i5⟩, h5⟩ : ∃ L, nextL l = L := ⟨_, rfl⟩
  obtain ⟨k, i⟩ := l
  rw [ht, h5] at HSG ⊢
  simp only [] at HSG ⊢
  clear ht h5 hfo hl
  go_enter Tryd.func43, Tryd.ntmps43
  go_upto_region 1 with fail
  generalize hW : World.alloc (World.alloc (World.alloc w _) _) _ = W1
  have KS : Hd (Keeps (fun _ => False) w W1) := hid (by rw [← hW]; exact (Keeps.alloc (Keeps.alloc (Keeps.alloc (Keeps.refl (fun _ => False) w) _) _) _))
  have BS : Hd (Blk W1 w.heap.size #[(.slice ba n bc), (.int .i64 ac), (.int .u64 (k : Int)), (.int .i64 i)] 57) := hid (by rw [← hW]; exact (blk_alloc (blk_alloc (blk_new _ _ _) _) _))
  have BR1 : Hd (Blk W1 (w.heap.size + 1) #[(.int .i64 0), (.int .i64 0), (.bool false), (.slice none 0 0), (.int .u64 0)] 25) := hid (by rw [← hW]; exact (blk_alloc (blk_new' _ _ _ _ (by simp)) _))
  have BR2 : Hd (Blk W1 (w.heap.size + 1 + 1) #[(.slice none 0 0), (.int .i64 0), (.int .u64 0), (.int .i64 0)] 57) := hid (by rw [← hW]; exact (blk_new' _ _ _ _ (by simp)))
  have HK : Hd (Keeps (fun _ => False) w W1) := hid KS.out
  have z_W1 : w.heap.size + 3 ≤ W1.heap.size := by rw [← hW]; simp
  clear hW KS
  generalize hb_BR2 : w.heap.size + 1 + 1 = b_BR2 at *
  generalize hb_BR1 : w.heap.size + 1 = b_BR1 at *
  have o_BS_0 : W1.cell? ⟨w.heap.size, 0, none⟩ = some ((.slice ba n bc)) := blk_cell BS.out 0
  have o_BS_1 : W1.cell? ⟨w.heap.size, 1, none⟩ = some ((.int .i64 ac)) := blk_cell BS.out 1
  have o_BS_2 : W1.cell? ⟨w.heap.size, 2, none⟩ = some ((.int .u64 (k : Int))) := blk_cell BS.out 2
  have o_BS_3 : W1.cell? ⟨w.heap.size, 3, none⟩ = some ((.int .i64 i)) := blk_cell BS.out 3
  go_wp2_with fail
  refine (HSG.out _).mono ?_
  rintro e W2 ⟨rfl, hk⟩
  clear o_BS_0 o_BS_1 o_BS_2 o_BS_3
  have BS' : Hd (Blk W2 w.heap.size #[(.slice ba n bc), (.int .i64 ac), (.int .u64 (k : Int)), (.int .i64 i)] 57) := hid (blk_keep BS.out hk (fun h => h))
  have BR1' : Hd (Blk W2 b_BR1 #[(.int .i64 0), (.int .i64 0), (.bool false), (.slice none 0 0), (.int .u64 0)] 25) := hid (blk_keep BR1.out hk (fun h => h))
  have BR2' : Hd (Blk W2 b_BR2 #[(.slice none 0 0), (.int .i64 0), (.int .u64 0), (.int .i64 0)] 57) := hid (blk_keep BR2.out hk (fun h => h))
  clear BS BR1 BR2
  have BS := BS'
  clear BS'
  have BR1 := BR1'
  clear BR1'
  have BR2 := BR2'
  clear BR2'
  have HK' : Hd (Keeps (fun _ => False) w W2) := hid (HK.out.trans hk)
  clear HK
  have HK := HK'
  clear HK'
  have z_W2 := hk.size
  clear hk
  have ltS := blk_lt BS.out
  have lt1 := blk_lt BR1.out
  have lt2 := blk_lt BR2.out
  have o_BR1_0 : W2.cell? ⟨b_BR1, 0, none⟩ = some ((.int .i64 0)) := blk_cell BR1.out 0
  have o_BR1_1 : W2.cell? ⟨b_BR1, 1, none⟩ = some ((.int .i64 0)) := blk_cell BR1.out 1
  have o_BR1_2 : W2.cell? ⟨b_BR1, 2, none⟩ = some ((.bool false)) := blk_cell BR1.out 2
  have o_BR1_3 : W2.cell? ⟨b_BR1, 3, none⟩ = some ((.slice none 0 0)) := blk_cell BR1.out 3
  have o_BR1_4 : W2.cell? ⟨b_BR1, 4, none⟩ = some ((.int .u64 0)) := blk_cell BR1.out 4
  have o_BR2_0 : W2.cell? ⟨b_BR2, 0, none⟩ = some ((.slice none 0 0)) := blk_cell BR2.out 0
  have o_BR2_1 : W2.cell? ⟨b_BR2, 1, none⟩ = some ((.int .i64 0)) := blk_cell BR2.out 1
  have o_BR2_2 : W2.cell? ⟨b_BR2, 2, none⟩ = some ((.int .u64 0)) := blk_cell BR2.out 2
  have o_BR2_3 : W2.cell? ⟨b_BR2, 3, none⟩ = some ((.int .i64 0)) := blk_cell BR2.out 3
  have f_BR1_0 : W2.frozen? ⟨b_BR1, 0, none⟩ = false := blk_free BR1.out 0
  have f_BR1_1 : W2.frozen? ⟨b_BR1, 1, none⟩ = false := blk_free BR1.out 1
  have f_BR1_2 : W2.frozen? ⟨b_BR1, 2, none⟩ = false := blk_free BR1.out 2
  have f_BR1_3 : W2.frozen? ⟨b_BR1, 3, none⟩ = false := blk_free BR1.out 3
  have f_BR1_4 : W2.frozen? ⟨b_BR1, 4, none⟩ = false := blk_free BR1.out 4
  have f_BR2_0 : W2.frozen? ⟨b_BR2, 0, none⟩ = false := blk_free BR2.out 0
  have f_BR2_1 : W2.frozen? ⟨b_BR2, 1, none⟩ = false := blk_free BR2.out 1
  have f_BR2_2 : W2.frozen? ⟨b_BR2, 2, none⟩ = false := blk_free BR2.out 2
  have f_BR2_3 : W2.frozen? ⟨b_BR2, 3, none⟩ = false := blk_free BR2.out 3
  go_wp2
  clear o_BR1_0 o_BR1_1 o_BR1_2 o_BR1_3 o_BR1_4 o_BR2_0 o_BR2_1 o_BR2_2 o_BR2_3 f_BR1_0 f_BR1_1 f_BR1_2 f_BR1_3 f_BR1_4 f_BR2_0 f_BR2_1 f_BR2_2 f_BR2_3
  generalize hW : World.setCell (World.setCell (World.setCell (World.setCell (World.setCell (World.setCell (World.setCell (World.setCell (World.setCell W2 _ _) _ _) _ _) _ _) _ _) _ _) _ _) _ _) _ _ = W3
  have KS : Hd (Keeps (fun b => b = b_BR1 ∨ b = b_BR2) W2 W3) := hid (by rw [← hW]; exact (Keeps.setCell (S := fun b => b = b_BR1 ∨ b = b_BR2) (p := ⟨b_BR2, 3, none⟩) (Keeps.setCell (S := fun b => b = b_BR1 ∨ b = b_BR2) (p := ⟨b_BR2, 2, none⟩) (Keeps.setCell (S := fun b => b = b_BR1 ∨ b = b_BR2) (p := ⟨b_BR2, 1, none⟩) (Keeps.setCell (S := fun b => b = b_BR1 ∨ b = b_BR2) (p := ⟨b_BR2, 0, none⟩) (Keeps.setCell (S := fun b => b = b_BR1 ∨ b = b_BR2) (p := ⟨b_BR1, 4, none⟩) (Keeps.setCell (S := fun b => b = b_BR1 ∨ b = b_BR2) (p := ⟨b_BR1, 3, none⟩) (Keeps.setCell (S := fun b => b = b_BR1 ∨ b = b_BR2) (p := ⟨b_BR1, 2, none⟩) (Keeps.setCell (S := fun b => b = b_BR1 ∨ b = b_BR2) (p := ⟨b_BR1, 1, none⟩) (Keeps.setCell (S := fun b => b = b_BR1 ∨ b = b_BR2) (p := ⟨b_BR1, 0, none⟩) (Keeps.refl (fun b => b = b_BR1 ∨ b = b_BR2) W2) (.inl (.inl rfl)) _) (.inl (.inl rfl)) _) (.inl (.inl rfl)) _) (.inl (.inl rfl)) _) (.inl (.inl rfl)) _) (.inl (.inr rfl)) _) (.inl (.inr rfl)) _) (.inl (.inr rfl)) _) (.inl (.inr rfl)) _))
  have BS' : Hd (Blk W3 w.heap.size #[(.slice ba n bc), (.int .i64 ac), (.int .u64 (k : Int)), (.int .i64 i)] 57) := hid (by rw [← hW]; exact (blk_other (blk_other (blk_other (blk_other (blk_other (blk_other (blk_other (blk_other (blk_other BS.out (by omega) _ _) (by omega) _ _) (by omega) _ _) (by omega) _ _) (by omega) _ _) (by omega) _ _) (by omega) _ _) (by omega) _ _) (by omega) _ _))
  have BR1' : Hd (Blk W3 b_BR1 #[(.int .i64 q), (.int .i64 i), (.bool true), (.slice none 0 0), (.int .u64 (t : Int))] 25) := hid (by rw [← hW]; exact (blk_other (blk_other (blk_other (blk_other (blk_set (blk_set (blk_set (blk_set (blk_set BR1.out 0 _) 1 _) 2 _) 3 _) 4 _) (by omega) _ _) (by omega) _ _) (by omega) _ _) (by omega) _ _))
  have BR2' : Hd (Blk W3 b_BR2 #[(.slice ba n bc), (.int .i64 ac), (.int .u64 (k5 : Int)), (.int .i64 i5)] 57) := hid (by rw [← hW]; exact (blk_set (blk_set (blk_set (blk_set (blk_other (blk_other (blk_other (blk_other (blk_other BR2.out (by omega) _ _) (by omega) _ _) (by omega) _ _) (by omega) _ _) (by omega) _ _) 0 _) 1 _) 2 _) 3 _))
  clear BS BR1 BR2
  have BS := BS'
  clear BS'
  have BR1 := BR1'
  clear BR1'
  have BR2 := BR2'
  clear BR2'
  have HK' : Hd (Keeps (fun _ => False) w W3) := hid (HK.out.trans' KS.out (fun i hi h => by omega))
  clear HK
  have HK := HK'
  clear HK'
  have z_W3 : W2.heap.size + 0 ≤ W3.heap.size := by rw [← hW]; simp
  clear hW KS
  have rr_BR1_0 := blk_cell BR1.out 0
  have rr_BR1_1 := blk_cell BR1.out 1
  have rr_BR1_2 := blk_cell BR1.out 2
  have rr_BR1_3 := blk_cell BR1.out 3
  have rr_BR1_4 := blk_cell BR1.out 4
  have rr_BR2_0 := blk_cell BR2.out 0
  have rr_BR2_1 := blk_cell BR2.out 1
  have rr_BR2_2 := blk_cell BR2.out 2
  have rr_BR2_3 := blk_cell BR2.out 3
  refine bodyPost_ret (v := .tuple #[.agg #[(.int .i64 q), (.int .i64 i), (.bool true), (.slice none 0 0), (.int .u64 (t : Int))], .agg #[(.slice ba n bc), (.int .i64 ac), (.int .u64 (k5 : Int)), (.int .i64 i5)]]) (by simp [results, Tryd.results43, go_sem, rr_BR1_0, rr_BR1_1, rr_BR1_2, rr_BR1_3, rr_BR1_4, rr_BR2_0, rr_BR2_1, rr_BR2_2, rr_BR2_3]) rfl ?_
  exact ⟨rfl, HK.out⟩
set_option maxRecDepth 100000 in set_option maxHeartbeats 1000000 in
theorem REmit_neg (ba : Option Addr) (n bc : Nat) (ac : Int) (k : Nat) (i q : Int) (w : World) (hq : q < 0) :
    Calls Tryd.prog 40 #[.agg #[.slice ba n bc, .int .i64 ac, .int .u64 (k : Int), .int .i64 i], .int .i64 q] w fun e w' => e = .returned (.tuple #[.agg #[.int .i64 0, .int .i64 0, .bool false, .slice none 0 0, .int .u64 0], .agg #[.slice none 0 0, .int .i64 0, .int .u64 0, .int .i64 0], .int .i64 5]) ∧ Keeps (fun _ => False) w w' := by
  have q0 : q < 0 := hq
  go_enter Tryd.func40, Tryd.ntmps40
  go_upto_region 1 with fail
  generalize hW : World.alloc (World.alloc (World.alloc w _) _) _ = W1
  have KS : Hd (Keeps (fun _ => False) w W1) := hid (by rw [← hW]; exact (Keeps.alloc (Keeps.alloc (Keeps.alloc (Keeps.refl (fun _ => False) w) _) _) _))
  have BS : Hd (Blk W1 w.heap.size #[(.slice ba n bc), (.int .i64 ac), (.int .u64 (k : Int)), (.int .i64 i)] 57) := hid (by rw [← hW]; exact (blk_alloc (blk_alloc (blk_new _ _ _) _) _))
  have BR1 : Hd (Blk W1 (w.heap.size + 1) #[(.int .i64 0), (.int .i64 0), (.bool false), (.slice none 0 0), (.int .u64 0)] 25) := hid (by rw [← hW]; exact (blk_alloc (blk_new' _ _ _ _ (by simp)) _))
  have BR2 : Hd (Blk W1 (w.heap.size + 1 + 1) #[(.slice none 0 0), (.int .i64 0), (.int .u64 0), (.int .i64 0)] 57) := hid (by rw [← hW]; exact (blk_new' _ _ _ _ (by simp)))
  have HK : Hd (Keeps (fun _ => False) w W1) := hid KS.out
  have z_W1 : w.heap.size + 3 ≤ W1.heap.size := by rw [← hW]; simp
  clear hW KS
  generalize hb_BR2 : w.heap.size + 1 + 1 = b_BR2 at *
  generalize hb_BR1 : w.heap.size + 1 = b_BR1 at *
  have ltS := blk_lt BS.out
  have lt1 := blk_lt BR1.out
  have lt2 := blk_lt BR2.out
  have o_BS_0 : W1.cell? ⟨w.heap.size, 0, none⟩ = some ((.slice ba n bc)) := blk_cell BS.out 0
  have o_BS_1 : W1.cell? ⟨w.heap.size, 1, none⟩ = some ((.int .i64 ac)) := blk_cell BS.out 1
  have o_BR1_0 : W1.cell? ⟨b_BR1, 0, none⟩ = some ((.int .i64 0)) := blk_cell BR1.out 0
  have o_BR1_1 : W1.cell? ⟨b_BR1, 1, none⟩ = some ((.int .i64 0)) := blk_cell BR1.out 1
  have o_BR1_2 : W1.cell? ⟨b_BR1, 2, none⟩ = some ((.bool false)) := blk_cell BR1.out 2
  have o_BR1_3 : W1.cell? ⟨b_BR1, 3, none⟩ = some ((.slice none 0 0)) := blk_cell BR1.out 3
  have o_BR1_4 : W1.cell? ⟨b_BR1, 4, none⟩ = some ((.int .u64 0)) := blk_cell BR1.out 4
  have o_BR2_0 : W1.cell? ⟨b_BR2, 0, none⟩ = some ((.slice none 0 0)) := blk_cell BR2.out 0
  have o_BR2_1 : W1.cell? ⟨b_BR2, 1, none⟩ = some ((.int .i64 0)) := blk_cell BR2.out 1
  have o_BR2_2 : W1.cell? ⟨b_BR2, 2, none⟩ = some ((.int .u64 0)) := blk_cell BR2.out 2
  have o_BR2_3 : W1.cell? ⟨b_BR2, 3, none⟩ = some ((.int .i64 0)) := blk_cell BR2.out 3
  have f_BR1_0 : W1.frozen? ⟨b_BR1, 0, none⟩ = false := blk_free BR1.out 0
  have f_BR1_1 : W1.frozen? ⟨b_BR1, 1, none⟩ = false := blk_free BR1.out 1
  have f_BR1_2 : W1.frozen? ⟨b_BR1, 2, none⟩ = false := blk_free BR1.out 2
  have f_BR1_3 : W1.frozen? ⟨b_BR1, 3, none⟩ = false := blk_free BR1.out 3
  have f_BR1_4 : W1.frozen? ⟨b_BR1, 4, none⟩ = false := blk_free BR1.out 4
  have f_BR2_0 : W1.frozen? ⟨b_BR2, 0, none⟩ = false := blk_free BR2.out 0
  have f_BR2_1 : W1.frozen? ⟨b_BR2, 1, none⟩ = false := blk_free BR2.out 1
  have f_BR2_2 : W1.frozen? ⟨b_BR2, 2, none⟩ = false := blk_free BR2.out 2
  have f_BR2_3 : W1.frozen? ⟨b_BR2, 3, none⟩ = false := blk_free BR2.out 3
  go_wp2
  clear o_BS_0 o_BS_1 o_BR1_0 o_BR1_1 o_BR1_2 o_BR1_3 o_BR1_4 o_BR2_0 o_BR2_1 o_BR2_2 o_BR2_3 f_BR1_0 f_BR1_1 f_BR1_2 f_BR1_3 f_BR1_4 f_BR2_0 f_BR2_1 f_BR2_2 f_BR2_3
  generalize hW : World.setCell (World.setCell (World.setCell (World.setCell (World.setCell (World.setCell (World.setCell (World.setCell (World.setCell W1 _ _) _ _) _ _) _ _) _ _) _ _) _ _) _ _) _ _ = W2
  have KS : Hd (Keeps (fun b => b = b_BR1 ∨ b = b_BR2) W1 W2) := hid (by rw [← hW]; exact (Keeps.setCell (S := fun b => b = b_BR1 ∨ b = b_BR2) (p := ⟨b_BR2, 3, none⟩) (Keeps.setCell (S := fun b => b = b_BR1 ∨ b = b_BR2) (p := ⟨b_BR2, 2, none⟩) (Keeps.setCell (S := fun b => b = b_BR1 ∨ b = b_BR2) (p := ⟨b_BR2, 1, none⟩) (Keeps.setCell (S := fun b => b = b_BR1 ∨ b = b_BR2) (p := ⟨b_BR2, 0, none⟩) (Keeps.setCell (S := fun b => b = b_BR1 ∨ b = b_BR2) (p := ⟨b_BR1, 4, none⟩) (Keeps.setCell (S := fun b => b = b_BR1 ∨ b = b_BR2) (p := ⟨b_BR1, 3, none⟩) (Keeps.setCell (S := fun b => b = b_BR1 ∨ b = b_BR2) (p := ⟨b_BR1, 2, none⟩) (Keeps.setCell (S := fun b => b = b_BR1 ∨ b = b_BR2) (p := ⟨b_BR1, 1, none⟩) (Keeps.setCell (S := fun b => b = b_BR1 ∨ b = b_BR2) (p := ⟨b_BR1, 0, none⟩) (Keeps.refl (fun b => b = b_BR1 ∨ b = b_BR2) W1) (.inl (.inl rfl)) _) (.inl (.inl rfl)) _) (.inl (.inl rfl)) _) (.inl (.inl rfl)) _) (.inl (.inl rfl)) _) (.inl (.inr rfl)) _) (.inl (.inr rfl)) _) (.inl (.inr rfl)) _) (.inl (.inr rfl)) _))
  have BS' : Hd (Blk W2 w.heap.size #[(.slice ba n bc), (.int .i64 ac), (.int .u64 (k : Int)), (.int .i64 i)] 57) := hid (by rw [← hW]; exact (blk_other (blk_other (blk_other (blk_other (blk_other (blk_other (blk_other (blk_other (blk_other BS.out (by omega) _ _) (by omega) _ _) (by omega) _ _) (by omega) _ _) (by omega) _ _) (by omega) _ _) (by omega) _ _) (by omega) _ _) (by omega) _ _))
  have BR1' : Hd (Blk W2 b_BR1 #[(.int .i64 0), (.int .i64 0), (.bool false), (.slice none 0 0), (.int .u64 0)] 25) := hid (by rw [← hW]; exact (blk_other (blk_other (blk_other (blk_other (blk_set (blk_set (blk_set (blk_set (blk_set BR1.out 0 _) 1 _) 2 _) 3 _) 4 _) (by omega) _ _) (by omega) _ _) (by omega) _ _) (by omega) _ _))
  have BR2' : Hd (Blk W2 b_BR2 #[(.slice none 0 0), (.int .i64 0), (.int .u64 0), (.int .i64 0)] 57) := hid (by rw [← hW]; exact (blk_set (blk_set (blk_set (blk_set (blk_other (blk_other (blk_other (blk_other (blk_other BR2.out (by omega) _ _) (by omega) _ _) (by omega) _ _) (by omega) _ _) (by omega) _ _) 0 _) 1 _) 2 _) 3 _))
  clear BS BR1 BR2
  have BS := BS'
  clear BS'
  have BR1 := BR1'
  clear BR1'
  have BR2 := BR2'
  clear BR2'
  have HK' : Hd (Keeps (fun _ => False) w W2) := hid (HK.out.trans' KS.out (fun i hi h => by omega))
  clear HK
  have HK := HK'
  clear HK'
  have z_W2 : W1.heap.size + 0 ≤ W2.heap.size := by rw [← hW]; simp
  clear hW KS
  have rr_BR1_0 := blk_cell BR1.out 0
  have rr_BR1_1 := blk_cell BR1.out 1
  have rr_BR1_2 := blk_cell BR1.out 2
  have rr_BR1_3 := blk_cell BR1.out 3
  have rr_BR1_4 := blk_cell BR1.out 4
  have rr_BR2_0 := blk_cell BR2.out 0
  have rr_BR2_1 := blk_cell BR2.out 1
  have rr_BR2_2 := blk_cell BR2.out 2
  have rr_BR2_3 := blk_cell BR2.out 3
  refine bodyPost_ret (v := .tuple #[.agg #[(.int .i64 0), (.int .i64 0), (.bool false), (.slice none 0 0), (.int .u64 0)], .agg #[(.slice none 0 0), (.int .i64 0), (.int .u64 0), (.int .i64 0)], .int .i64 5]) (by simp [results, Tryd.results40, go_sem, rr_BR1_0, rr_BR1_1, rr_BR1_2, rr_BR1_3, rr_BR1_4, rr_BR2_0, rr_BR2_1, rr_BR2_2, rr_BR2_3]) rfl ?_
  exact ⟨rfl, HK.out⟩
set_option maxRecDepth 100000 in set_option maxHeartbeats 1000000 in
theorem REmit_big (ba : Option Addr) (n bc : Nat) (ac : Int) (k : Nat) (i q : Int) (w : World) (hq : 0 ≤ q) (hn : (n : Int) ≤ q) :
    Calls Tryd.prog 40 #[.agg #[.slice ba n bc, .int .i64 ac, .int .u64 (k : Int), .int .i64 i], .int .i64 q] w fun e w' => e = .returned (.tuple #[.agg #[.int .i64 0, .int .i64 0, .bool false, .slice none 0 0, .int .u64 0], .agg #[.slice none 0 0, .int .i64 0, .int .u64 0, .int .i64 0], .int .i64 5]) ∧ Keeps (fun _ => False) w w' := by
  have q0 : ¬ q < 0 := by omega
  have q1 : (n : Int) ≤ q := hn
  have q2 : ¬ q < (n : Int) := by omega
  go_enter Tryd.func40, Tryd.ntmps40
  go_upto_region 1 with fail
  generalize hW : World.alloc (World.alloc (World.alloc w _) _) _ = W1
  have KS : Hd (Keeps (fun _ => False) w W1) := hid (by rw [← hW]; exact (Keeps.alloc (Keeps.alloc (Keeps.alloc (Keeps.refl (fun _ => False) w) _) _) _))
  have BS : Hd (Blk W1 w.heap.size #[(.slice ba n bc), (.int .i64 ac), (.int .u64 (k : Int)), (.int .i64 i)] 57) := hid (by rw [← hW]; exact (blk_alloc (blk_alloc (blk_new _ _ _) _) _))
  have BR1 : Hd (Blk W1 (w.heap.size + 1) #[(.int .i64 0), (.int .i64 0), (.bool false), (.slice none 0 0), (.int .u64 0)] 25) := hid (by rw [← hW]; exact (blk_alloc (blk_new' _ _ _ _ (by simp)) _))
  have BR2 : Hd (Blk W1 (w.heap.size + 1 + 1) #[(.slice none 0 0), (.int .i64 0), (.int .u64 0), (.int .i64 0)] 57) := hid (by rw [← hW]; exact (blk_new' _ _ _ _ (by simp)))
  have HK : Hd (Keeps (fun _ => False) w W1) := hid KS.out
  have z_W1 : w.heap.size + 3 ≤ W1.heap.size := by rw [← hW]; simp
  clear hW KS
  generalize hb_BR2 : w.heap.size + 1 + 1 = b_BR2 at *
  generalize hb_BR1 : w.heap.size + 1 = b_BR1 at *
  have ltS := blk_lt BS.out
  have lt1 := blk_lt BR1.out
  have lt2 := blk_lt BR2.out
  have o_BS_0 : W1.cell? ⟨w.heap.size, 0, none⟩ = some ((.slice ba n bc)) := blk_cell BS.out 0
  have o_BS_1 : W1.cell? ⟨w.heap.size, 1, none⟩ = some ((.int .i64 ac)) := blk_cell BS.out 1
  have o_BR1_0 : W1.cell? ⟨b_BR1, 0, none⟩ = some ((.int .i64 0)) := blk_cell BR1.out 0
  have o_BR1_1 : W1.cell? ⟨b_BR1, 1, none⟩ = some ((.int .i64 0)) := blk_cell BR1.out 1
  have o_BR1_2 : W1.cell? ⟨b_BR1, 2, none⟩ = some ((.bool false)) := blk_cell BR1.out 2
  have o_BR1_3 : W1.cell? ⟨b_BR1, 3, none⟩ = some ((.slice none 0 0)) := blk_cell BR1.out 3
  have o_BR1_4 : W1.cell? ⟨b_BR1, 4, none⟩ = some ((.int .u64 0)) := blk_cell BR1.out 4
  have o_BR2_0 : W1.cell? ⟨b_BR2, 0, none⟩ = some ((.slice none 0 0)) := blk_cell BR2.out 0
  have o_BR2_1 : W1.cell? ⟨b_BR2, 1, none⟩ = some ((.int .i64 0)) := blk_cell BR2.out 1
  have o_BR2_2 : W1.cell? ⟨b_BR2, 2, none⟩ = some ((.int .u64 0)) := blk_cell BR2.out 2
  have o_BR2_3 : W1.cell? ⟨b_BR2, 3, none⟩ = some ((.int .i64 0)) := blk_cell BR2.out 3
  have f_BR1_0 : W1.frozen? ⟨b_BR1, 0, none⟩ = false := blk_free BR1.out 0
  have f_BR1_1 : W1.frozen? ⟨b_BR1, 1, none⟩ = false := blk_free BR1.out 1
  have f_BR1_2 : W1.frozen? ⟨b_BR1, 2, none⟩ = false := blk_free BR1.out 2
  have f_BR1_3 : W1.frozen? ⟨b_BR1, 3, none⟩ = false := blk_free BR1.out 3
  have f_BR1_4 : W1.frozen? ⟨b_BR1, 4, none⟩ = false := blk_free BR1.out 4
  have f_BR2_0 : W1.frozen? ⟨b_BR2, 0, none⟩ = false := blk_free BR2.out 0
  have f_BR2_1 : W1.frozen? ⟨b_BR2, 1, none⟩ = false := blk_free BR2.out 1
  have f_BR2_2 : W1.frozen? ⟨b_BR2, 2, none⟩ = false := blk_free BR2.out 2
  have f_BR2_3 : W1.frozen? ⟨b_BR2, 3, none⟩ = false := blk_free BR2.out 3
  go_wp2
  clear o_BS_0 o_BS_1 o_BR1_0 o_BR1_1 o_BR1_2 o_BR1_3 o_BR1_4 o_BR2_0 o_BR2_1 o_BR2_2 o_BR2_3 f_BR1_0 f_BR1_1 f_BR1_2 f_BR1_3 f_BR1_4 f_BR2_0 f_BR2_1 f_BR2_2 f_BR2_3
  generalize hW : World.setCell (World.setCell (World.setCell (World.setCell (World.setCell (World.setCell (World.setCell (World.setCell (World.setCell W1 _ _) _ _) _ _) _ _) _ _) _ _) _ _) _ _) _ _ = W2
  have KS : Hd (Keeps (fun b => b = b_BR1 ∨ b = b_BR2) W1 W2) := hid (by rw [← hW]; exact (Keeps.setCell (S := fun b => b = b_BR1 ∨ b = b_BR2) (p := ⟨b_BR2, 3, none⟩) (Keeps.setCell (S := fun b => b = b_BR1 ∨ b = b_BR2) (p := ⟨b_BR2, 2, none⟩) (Keeps.setCell (S := fun b => b = b_BR1 ∨ b = b_BR2) (p := ⟨b_BR2, 1, none⟩) (Keeps.setCell (S := fun b => b = b_BR1 ∨ b = b_BR2) (p := ⟨b_BR2, 0, none⟩) (Keeps.setCell (S := fun b => b = b_BR1 ∨ b = b_BR2) (p := ⟨b_BR1, 4, none⟩) (Keeps.setCell (S := fun b => b = b_BR1 ∨ b = b_BR2) (p := ⟨b_BR1, 3, none⟩) (Keeps.setCell (S := fun b => b = b_BR1 ∨ b = b_BR2) (p := ⟨b_BR1, 2, none⟩) (Keeps.setCell (S := fun b => b = b_BR1 ∨ b = b_BR2) (p := ⟨b_BR1, 1, none⟩) (Keeps.setCell (S := fun b => b = b_BR1 ∨ b = b_BR2) (p := ⟨b_BR1, 0, none⟩) (Keeps.refl (fun b => b = b_BR1 ∨ b = b_BR2) W1) (.inl (.inl rfl)) _) (.inl (.inl rfl)) _) (.inl (.inl rfl)) _) (.inl (.inl rfl)) _) (.inl (.inl rfl)) _) (.inl (.inr rfl)) _) (.inl (.inr rfl)) _) (.inl (.inr rfl)) _) (.inl (.inr rfl)) _))
  have BS' : Hd (Blk W2 w.heap.size #[(.slice ba n bc), (.int .i64 ac), (.int .u64 (k : Int)), (.int .i64 i)] 57) := hid (by rw [← hW]; exact (blk_other (blk_other (blk_other (blk_other (blk_other (blk_other (blk_other (blk_other (blk_other BS.out (by omega) _ _) (by omega) _ _) (by omega) _ _) (by omega) _ _) (by omega) _ _) (by omega) _ _) (by omega) _ _) (by omega) _ _) (by omega) _ _))
  have BR1' : Hd (Blk W2 b_BR1 #[(.int .i64 0), (.int .i64 0), (.bool false), (.slice none 0 0), (.int .u64 0)] 25) := hid (by rw [← hW]; exact (blk_other (blk_other (blk_other (blk_other (blk_set (blk_set (blk_set (blk_set (blk_set BR1.out 0 _) 1 _) 2 _) 3 _) 4 _) (by omega) _ _) (by omega) _ _) (by omega) _ _) (by omega) _ _))
  have BR2' : Hd (Blk W2 b_BR2 #[(.slice none 0 0), (.int .i64 0), (.int .u64 0), (.int .i64 0)] 57) := hid (by rw [← hW]; exact (blk_set (blk_set (blk_set (blk_set (blk_other (blk_other (blk_other (blk_other (blk_other BR2.out (by omega) _ _) (by omega) _ _) (by omega) _ _) (by omega) _ _) (by omega) _ _) 0 _) 1 _) 2 _) 3 _))
  clear BS BR1 BR2
  have BS := BS'
  clear BS'
  have BR1 := BR1'
  clear BR1'
  have BR2 := BR2'
  clear BR2'
  have HK' : Hd (Keeps (fun _ => False) w W2) := hid (HK.out.trans' KS.out (fun i hi h => by omega))
  clear HK
  have HK := HK'
  clear HK'
  have z_W2 : W1.heap.size + 0 ≤ W2.heap.size := by rw [← hW]; simp
  clear hW KS
  have rr_BR1_0 := blk_cell BR1.out 0
  have rr_BR1_1 := blk_cell BR1.out 1
  have rr_BR1_2 := blk_cell BR1.out 2
  have rr_BR1_3 := blk_cell BR1.out 3
  have rr_BR1_4 := blk_cell BR1.out 4
  have rr_BR2_0 := blk_cell BR2.out 0
  have rr_BR2_1 := blk_cell BR2.out 1
  have rr_BR2_2 := blk_cell BR2.out 2
  have rr_BR2_3 := blk_cell BR2.out 3
  refine bodyPost_ret (v := .tuple #[.agg #[(.int .i64 0), (.int .i64 0), (.bool false), (.slice none 0 0), (.int .u64 0)], .agg #[(.slice none 0 0), (.int .i64 0), (.int .u64 0), (.int .i64 0)], .int .i64 5]) (by simp [results, Tryd.results40, go_sem, rr_BR1_0, rr_BR1_1, rr_BR1_2, rr_BR1_3, rr_BR1_4, rr_BR2_0, rr_BR2_1, rr_BR2_2, rr_BR2_3]) rfl ?_
  exact ⟨rfl, HK.out⟩
set_option maxRecDepth 100000 in set_option maxHeartbeats 1000000 in
theorem REmit_old (ba : Option Addr) (n bc : Nat) (ac : Int) (k : Nat) (i q : Int) (w : World) (hq : 0 ≤ q) (hn : q < (n : Int)) (ha : q < ac) :
    Calls Tryd.prog 40 #[.agg #[.slice ba n bc, .int .i64 ac, .int .u64 (k : Int), .int .i64 i], .int .i64 q] w fun e w' => e = .returned (.tuple #[.agg #[.int .i64 0, .int .i64 0, .bool false, .slice none 0 0, .int .u64 0], .agg #[.slice none 0 0, .int .i64 0, .int .u64 0, .int .i64 0], .int .i64 32]) ∧ Keeps (fun _ => False) w w' := by
  have q0 : ¬ q < 0 := by omega
  have q1 : ¬ (n : Int) ≤ q := by omega
  have q2 : q < ac := ha
  go_enter Tryd.func40, Tryd.ntmps40
  go_upto_region 1 with fail
  generalize hW : World.alloc (World.alloc (World.alloc w _) _) _ = W1
  have KS : Hd (Keeps (fun _ => False) w W1) := hid (by rw [← hW]; exact (Keeps.alloc (Keeps.alloc (Keeps.alloc (Keeps.refl (fun _ => False) w) _) _) _))
  have BS : Hd (Blk W1 w.heap.size #[(.slice ba n bc), (.int .i64 ac), (.int .u64 (k : Int)), (.int .i64 i)] 57) := hid (by rw [← hW]; exact (blk_alloc (blk_alloc (blk_new _ _ _) _) _))
  have BR1 : Hd (Blk W1 (w.heap.size + 1) #[(.int .i64 0), (.int .i64 0), (.bool false), (.slice none 0 0), (.int .u64 0)] 25) := hid (by rw [← hW]; exact (blk_alloc (blk_new' _ _ _ _ (by simp)) _))
  have BR2 : Hd (Blk W1 (w.heap.size + 1 + 1) #[(.slice none 0 0), (.int .i64 0), (.int .u64 0), (.int .i64 0)] 57) := hid (by rw [← hW]; exact (blk_new' _ _ _ _ (by simp)))
  have HK : Hd (Keeps (fun _ => False) w W1) := hid KS.out
  have z_W1 : w.heap.size + 3 ≤ W1.heap.size := by rw [← hW]; simp
  clear hW KS
  generalize hb_BR2 : w.heap.size + 1 + 1 = b_BR2 at *
  generalize hb_BR1 : w.heap.size + 1 = b_BR1 at *
  have ltS := blk_lt BS.out
  have lt1 := blk_lt BR1.out
  have lt2 := blk_lt BR2.out
  have o_BS_0 : W1.cell? ⟨w.heap.size, 0, none⟩ = some ((.slice ba n bc)) := blk_cell BS.out 0
  have o_BS_1 : W1.cell? ⟨w.heap.size, 1, none⟩ = some ((.int .i64 ac)) := blk_cell BS.out 1
  have o_BR1_0 : W1.cell? ⟨b_BR1, 0, none⟩ = some ((.int .i64 0)) := blk_cell BR1.out 0
  have o_BR1_1 : W1.cell? ⟨b_BR1, 1, none⟩ = some ((.int .i64 0)) := blk_cell BR1.out 1
  have o_BR1_2 : W1.cell? ⟨b_BR1, 2, none⟩ = some ((.bool false)) := blk_cell BR1.out 2
  have o_BR1_3 : W1.cell? ⟨b_BR1, 3, none⟩ = some ((.slice none 0 0)) := blk_cell BR1.out 3
  have o_BR1_4 : W1.cell? ⟨b_BR1, 4, none⟩ = some ((.int .u64 0)) := blk_cell BR1.out 4
  have o_BR2_0 : W1.cell? ⟨b_BR2, 0, none⟩ = some ((.slice none 0 0)) := blk_cell BR2.out 0
  have o_BR2_1 : W1.cell? ⟨b_BR2, 1, none⟩ = some ((.int .i64 0)) := blk_cell BR2.out 1
  have o_BR2_2 : W1.cell? ⟨b_BR2, 2, none⟩ = some ((.int .u64 0)) := blk_cell BR2.out 2
  have o_BR2_3 : W1.cell? ⟨b_BR2, 3, none⟩ = some ((.int .i64 0)) := blk_cell BR2.out 3
  have f_BR1_0 : W1.frozen? ⟨b_BR1, 0, none⟩ = false := blk_free BR1.out 0
  have f_BR1_1 : W1.frozen? ⟨b_BR1, 1, none⟩ = false := blk_free BR1.out 1
  have f_BR1_2 : W1.frozen? ⟨b_BR1, 2, none⟩ = false := blk_free BR1.out 2
  have f_BR1_3 : W1.frozen? ⟨b_BR1, 3, none⟩ = false := blk_free BR1.out 3
  have f_BR1_4 : W1.frozen? ⟨b_BR1, 4, none⟩ = false := blk_free BR1.out 4
  have f_BR2_0 : W1.frozen? ⟨b_BR2, 0, none⟩ = false := blk_free BR2.out 0
  have f_BR2_1 : W1.frozen? ⟨b_BR2, 1, none⟩ = false := blk_free BR2.out 1
  have f_BR2_2 : W1.frozen? ⟨b_BR2, 2, none⟩ = false := blk_free BR2.out 2
  have f_BR2_3 : W1.frozen? ⟨b_BR2, 3, none⟩ = false := blk_free BR2.out 3
  go_wp2
  clear o_BS_0 o_BS_1 o_BR1_0 o_BR1_1 o_BR1_2 o_BR1_3 o_BR1_4 o_BR2_0 o_BR2_1 o_BR2_2 o_BR2_3 f_BR1_0 f_BR1_1 f_BR1_2 f_BR1_3 f_BR1_4 f_BR2_0 f_BR2_1 f_BR2_2 f_BR2_3
  generalize hW : World.setCell (World.setCell (World.setCell (World.setCell (World.setCell (World.setCell (World.setCell (World.setCell (World.setCell W1 _ _) _ _) _ _) _ _) _ _) _ _) _ _) _ _) _ _ = W2
  have KS : Hd (Keeps (fun b => b = b_BR1 ∨ b = b_BR2) W1 W2) := hid (by rw [← hW]; exact (Keeps.setCell (S := fun b => b = b_BR1 ∨ b = b_BR2) (p := ⟨b_BR2, 3, none⟩) (Keeps.setCell (S := fun b => b = b_BR1 ∨ b = b_BR2) (p := ⟨b_BR2, 2, none⟩) (Keeps.setCell (S := fun b => b = b_BR1 ∨ b = b_BR2) (p := ⟨b_BR2, 1, none⟩) (Keeps.setCell (S := fun b => b = b_BR1 ∨ b = b_BR2) (p := ⟨b_BR2, 0, none⟩) (Keeps.setCell (S := fun b => b = b_BR1 ∨ b = b_BR2) (p := ⟨b_BR1, 4, none⟩) (Keeps.setCell (S := fun b => b = b_BR1 ∨ b = b_BR2) (p := ⟨b_BR1, 3, none⟩) (Keeps.setCell (S := fun b => b = b_BR1 ∨ b = b_BR2) (p := ⟨b_BR1, 2, none⟩) (Keeps.setCell (S := fun b => b = b_BR1 ∨ b = b_BR2) (p := ⟨b_BR1, 1, none⟩) (Keeps.setCell (S := fun b => b = b_BR1 ∨ b = b_BR2) (p := ⟨b_BR1, 0, none⟩) (Keeps.refl (fun b => b = b_BR1 ∨ b = b_BR2) W1) (.inl (.inl rfl)) _) (.inl (.inl rfl)) _) (.inl (.inl rfl)) _) (.inl (.inl rfl)) _) (.inl (.inl rfl)) _) (.inl (.inr rfl)) _) (.inl (.inr rfl)) _) (.inl (.inr rfl)) _) (.inl (.inr rfl)) _))
  have BS' : Hd (Blk W2 w.heap.size #[(.slice ba n bc), (.int .i64 ac), (.int .u64 (k : Int)), (.int .i64 i)] 57) := hid (by rw [← hW]; exact (blk_other (blk_other (blk_other (blk_other (blk_other (blk_other (blk_other (blk_other (blk_other BS.out (by omega) _ _) (by omega) _ _) (by omega) _ _) (by omega) _ _) (by omega) _ _) (by omega) _ _) (by omega) _ _) (by omega) _ _) (by omega) _ _))
  have BR1' : Hd (Blk W2 b_BR1 #[(.int .i64 0), (.int .i64 0), (.bool false), (.slice none 0 0), (.int .u64 0)] 25) := hid (by rw [← hW]; exact (blk_other (blk_other (blk_other (blk_other (blk_set (blk_set (blk_set (blk_set (blk_set BR1.out 0 _) 1 _) 2 _) 3 _) 4 _) (by omega) _ _) (by omega) _ _) (by omega) _ _) (by omega) _ _))
  have BR2' : Hd (Blk W2 b_BR2 #[(.slice none 0 0), (.int .i64 0), (.int .u64 0), (.int .i64 0)] 57) := hid (by rw [← hW]; exact (blk_set (blk_set (blk_set (blk_set (blk_other (blk_other (blk_other (blk_other (blk_other BR2.out (by omega) _ _) (by omega) _ _) (by omega) _ _) (by omega) _ _) (by omega) _ _) 0 _) 1 _) 2 _) 3 _))
  clear BS BR1 BR2
  have BS := BS'
  clear BS'
  have BR1 := BR1'
  clear BR1'
  have BR2 := BR2'
  clear BR2'
  have HK' : Hd (Keeps (fun _ => False) w W2) := hid (HK.out.trans' KS.out (fun i hi h => by omega))
  clear HK
  have HK := HK'
  clear HK'
  have z_W2 : W1.heap.size + 0 ≤ W2.heap.size := by rw [← hW]; simp
  clear hW KS
  have rr_BR1_0 := blk_cell BR1.out 0
  have rr_BR1_1 := blk_cell BR1.out 1
  have rr_BR1_2 := blk_cell BR1.out 2
  have rr_BR1_3 := blk_cell BR1.out 3
  have rr_BR1_4 := blk_cell BR1.out 4
  have rr_BR2_0 := blk_cell BR2.out 0
  have rr_BR2_1 := blk_cell BR2.out 1
  have rr_BR2_2 := blk_cell BR2.out 2
  have rr_BR2_3 := blk_cell BR2.out 3
  refine bodyPost_ret (v := .tuple #[.agg #[(.int .i64 0), (.int .i64 0), (.bool false), (.slice none 0 0), (.int .u64 0)], .agg #[(.slice none 0 0), (.int .i64 0), (.int .u64 0), (.int .i64 0)], .int .i64 32]) (by simp [results, Tryd.results40, go_sem, rr_BR1_0, rr_BR1_1, rr_BR1_2, rr_BR1_3, rr_BR1_4, rr_BR2_0, rr_BR2_1, rr_BR2_2, rr_BR2_3]) rfl ?_
  exact ⟨rfl, HK.out⟩
set_option maxRecDepth 100000 in set_option maxHeartbeats 1000000 in
theorem REmit_far (ba : Option Addr) (n bc : Nat) (ac : Int) (k : Nat) (i q : Int) (w : World) (hq : 0 ≤ q) (hn : q < (n : Int)) (hnn : n ≤ 100000) (ha0 : 0 ≤ ac) (ha : ac + 16 ≤ q) :
    Calls Tryd.prog 40 #[.agg #[.slice ba n bc, .int .i64 ac, .int .u64 (k : Int), .int .i64 i], .int .i64 q] w fun e w' => e = .returned (.tuple #[.agg #[.int .i64 0, .int .i64 0, .bool false, .slice none 0 0, .int .u64 0], .agg #[.slice none 0 0, .int .i64 0, .int .u64 0, .int .i64 0], .int .i64 32]) ∧ Keeps (fun _ => False) w w' := by
  have q0 : ¬ q < 0 := by omega
  have q1 : ¬ (n : Int) ≤ q := by omega
  have q2 : ¬ q < ac := by omega
  have q3 : IntKind.i64.wrap (q - ac) = q - ac := IntWalk.i64_in _ (by omega)
  have q4 : 16 ≤ q - ac := by omega
  go_enter Tryd.func40, Tryd.ntmps40
  go_upto_region 1 with fail
  generalize hW : World.alloc (World.alloc (World.alloc w _) _) _ = W1
  have KS : Hd (Keeps (fun _ => False) w W1) := hid (by rw [← hW]; exact (Keeps.alloc (Keeps.alloc (Keeps.alloc (Keeps.refl (fun _ => False) w) _) _) _))
  have BS : Hd (Blk W1 w.heap.size #[(.slice ba n bc), (.int .i64 ac), (.int .u64 (k : Int)), (.int .i64 i)] 57) := hid (by rw [← hW]; exact (blk_alloc (blk_alloc (blk_new _ _ _) _) _))
  have BR1 : Hd (Blk W1 (w.heap.size + 1) #[(.int .i64 0), (.int .i64 0), (.bool false), (.slice none 0 0), (.int .u64 0)] 25) := hid (by rw [← hW]; exact (blk_alloc (blk_new' _ _ _ _ (by simp)) _))
  have BR2 : Hd (Blk W1 (w.heap.size + 1 + 1) #[(.slice none 0 0), (.int .i64 0), (.int .u64 0), (.int .i64 0)] 57) := hid (by rw [← hW]; exact (blk_new' _ _ _ _ (by simp)))
  have HK : Hd (Keeps (fun _ => False) w W1) := hid KS.out
  have z_W1 : w.heap.size + 3 ≤ W1.heap.size := by rw [← hW]; simp
  clear hW KS
  generalize hb_BR2 : w.heap.size + 1 + 1 = b_BR2 at *
  generalize hb_BR1 : w.heap.size + 1 = b_BR1 at *
  have ltS := blk_lt BS.out
  have lt1 := blk_lt BR1.out
  have lt2 := blk_lt BR2.out
  have o_BS_0 : W1.cell? ⟨w.heap.size, 0, none⟩ = some ((.slice ba n bc)) := blk_cell BS.out 0
  have o_BS_1 : W1.cell? ⟨w.heap.size, 1, none⟩ = some ((.int .i64 ac)) := blk_cell BS.out 1
  have o_BR1_0 : W1.cell? ⟨b_BR1, 0, none⟩ = some ((.int .i64 0)) := blk_cell BR1.out 0
  have o_BR1_1 : W1.cell? ⟨b_BR1, 1, none⟩ = some ((.int .i64 0)) := blk_cell BR1.out 1
  have o_BR1_2 : W1.cell? ⟨b_BR1, 2, none⟩ = some ((.bool false)) := blk_cell BR1.out 2
  have o_BR1_3 : W1.cell? ⟨b_BR1, 3, none⟩ = some ((.slice none 0 0)) := blk_cell BR1.out 3
  have o_BR1_4 : W1.cell? ⟨b_BR1, 4, none⟩ = some ((.int .u64 0)) := blk_cell BR1.out 4
  have o_BR2_0 : W1.cell? ⟨b_BR2, 0, none⟩ = some ((.slice none 0 0)) := blk_cell BR2.out 0
  have o_BR2_1 : W1.cell? ⟨b_BR2, 1, none⟩ = some ((.int .i64 0)) := blk_cell BR2.out 1
  have o_BR2_2 : W1.cell? ⟨b_BR2, 2, none⟩ = some ((.int .u64 0)) := blk_cell BR2.out 2
  have o_BR2_3 : W1.cell? ⟨b_BR2, 3, none⟩ = some ((.int .i64 0)) := blk_cell BR2.out 3
  have f_BR1_0 : W1.frozen? ⟨b_BR1, 0, none⟩ = false := blk_free BR1.out 0
  have f_BR1_1 : W1.frozen? ⟨b_BR1, 1, none⟩ = false := blk_free BR1.out 1
  have f_BR1_2 : W1.frozen? ⟨b_BR1, 2, none⟩ = false := blk_free BR1.out 2
  have f_BR1_3 : W1.frozen? ⟨b_BR1, 3, none⟩ = false := blk_free BR1.out 3
  have f_BR1_4 : W1.frozen? ⟨b_BR1, 4, none⟩ = false := blk_free BR1.out 4
  have f_BR2_0 : W1.frozen? ⟨b_BR2, 0, none⟩ = false := blk_free BR2.out 0
  have f_BR2_1 : W1.frozen? ⟨b_BR2, 1, none⟩ = false := blk_free BR2.out 1
  have f_BR2_2 : W1.frozen? ⟨b_BR2, 2, none⟩ = false := blk_free BR2.out 2
  have f_BR2_3 : W1.frozen? ⟨b_BR2, 3, none⟩ = false := blk_free BR2.out 3
  go_wp2
  clear o_BS_0 o_BS_1 o_BR1_0 o_BR1_1 o_BR1_2 o_BR1_3 o_BR1_4 o_BR2_0 o_BR2_1 o_BR2_2 o_BR2_3 f_BR1_0 f_BR1_1 f_BR1_2 f_BR1_3 f_BR1_4 f_BR2_0 f_BR2_1 f_BR2_2 f_BR2_3
  generalize hW : World.setCell (World.setCell (World.setCell (World.setCell (World.setCell (World.setCell (World.setCell (World.setCell (World.setCell W1 _ _) _ _) _ _) _ _) _ _) _ _) _ _) _ _) _ _ = W2
  have KS : Hd (Keeps (fun b => b = b_BR1 ∨ b = b_BR2) W1 W2) := hid (by rw [← hW]; exact (Keeps.setCell (S := fun b => b = b_BR1 ∨ b = b_BR2) (p := ⟨b_BR2, 3, none⟩) (Keeps.setCell (S := fun b => b = b_BR1 ∨ b = b_BR2) (p := ⟨b_BR2, 2, none⟩) (Keeps.setCell (S := fun b => b = b_BR1 ∨ b = b_BR2) (p := ⟨b_BR2, 1, none⟩) (Keeps.setCell (S := fun b => b = b_BR1 ∨ b = b_BR2) (p := ⟨b_BR2, 0, none⟩) (Keeps.setCell (S := fun b => b = b_BR1 ∨ b = b_BR2) (p := ⟨b_BR1, 4, none⟩) (Keeps.setCell (S := fun b => b = b_BR1 ∨ b = b_BR2) (p := ⟨b_BR1, 3, none⟩) (Keeps.setCell (S := fun b => b = b_BR1 ∨ b = b_BR2) (p := ⟨b_BR1, 2, none⟩) (Keeps.setCell (S := fun b => b = b_BR1 ∨ b = b_BR2) (p := ⟨b_BR1, 1, none⟩) (Keeps.setCell (S := fun b => b = b_BR1 ∨ b = b_BR2) (p := ⟨b_BR1, 0, none⟩) (Keeps.refl (fun b => b = b_BR1 ∨ b = b_BR2) W1) (.inl (.inl rfl)) _) (.inl (.inl rfl)) _) (.inl (.inl rfl)) _) (.inl (.inl rfl)) _) (.inl (.inl rfl)) _) (.inl (.inr rfl)) _) (.inl (.inr rfl)) _) (.inl (.inr rfl)) _) (.inl (.inr rfl)) _))
  have BS' : Hd (Blk W2 w.heap.size #[(.slice ba n bc), (.int .i64 ac), (.int .u64 (k : Int)), (.int .i64 i)] 57) := hid (by rw [← hW]; exact (blk_other (blk_other (blk_other (blk_other (blk_other (blk_other (blk_other (blk_other (blk_other BS.out (by omega) _ _) (by omega) _ _) (by omega) _ _) (by omega) _ _) (by omega) _ _) (by omega) _ _) (by omega) _ _) (by omega) _ _) (by omega) _ _))
  have BR1' : Hd (Blk W2 b_BR1 #[(.int .i64 0), (.int .i64 0), (.bool false), (.slice none 0 0), (.int .u64 0)] 25) := hid (by rw [← hW]; exact (blk_other (blk_other (blk_other (blk_other (blk_set (blk_set (blk_set (blk_set (blk_set BR1.out 0 _) 1 _) 2 _) 3 _) 4 _) (by omega) _ _) (by omega) _ _) (by omega) _ _) (by omega) _ _))
  have BR2' : Hd (Blk W2 b_BR2 #[(.slice none 0 0), (.int .i64 0), (.int .u64 0), (.int .i64 0)] 57) := hid (by rw [← hW]; exact (blk_set (blk_set (blk_set (blk_set (blk_other (blk_other (blk_other (blk_other (blk_other BR2.out (by omega) _ _) (by omega) _ _) (by omega) _ _) (by omega) _ _) (by omega) _ _) 0 _) 1 _) 2 _) 3 _))
  clear BS BR1 BR2
  have BS := BS'
  clear BS'
  have BR1 := BR1'
  clear BR1'
  have BR2 := BR2'
  clear BR2'
  have HK' : Hd (Keeps (fun _ => False) w W2) := hid (HK.out.trans' KS.out (fun i hi h => by omega))
  clear HK
  have HK := HK'
  clear HK'
  have z_W2 : W1.heap.size + 0 ≤ W2.heap.size := by rw [← hW]; simp
  clear hW KS
  have rr_BR1_0 := blk_cell BR1.out 0
  have rr_BR1_1 := blk_cell BR1.out 1
  have rr_BR1_2 := blk_cell BR1.out 2
  have rr_BR1_3 := blk_cell BR1.out 3
  have rr_BR1_4 := blk_cell BR1.out 4
  have rr_BR2_0 := blk_cell BR2.out 0
  have rr_BR2_1 := blk_cell BR2.out 1
  have rr_BR2_2 := blk_cell BR2.out 2
  have rr_BR2_3 := blk_cell BR2.out 3
  refine bodyPost_ret (v := .tuple #[.agg #[(.int .i64 0), (.int .i64 0), (.bool false), (.slice none 0 0), (.int .u64 0)], .agg #[(.slice none 0 0), (.int .i64 0), (.int .u64 0), (.int .i64 0)], .int .i64 32]) (by simp [results, Tryd.results40, go_sem, rr_BR1_0, rr_BR1_1, rr_BR1_2, rr_BR1_3, rr_BR1_4, rr_BR2_0, rr_BR2_1, rr_BR2_2, rr_BR2_3]) rfl ?_
  exact ⟨rfl, HK.out⟩
set_option maxRecDepth 100000 in set_option maxHeartbeats 1000000 in
theorem REmit_ok (bs : List (List Nat)) (x : List Nat) (ba : Option Addr) (bc : Nat) (ac : Int) (l : Ld) (q : Nat) (K : Nat → Prop) (w : World) (hv : Bds K w (.slice ba bs.length bc) bs) (hn : bs.length ≤ 100000) (hxb : ∀ x ∈ bs, x.length ≤ 512 ∧ ∀ c ∈ x, c < 256) (hl : l.ok) (hq : bs[q]? = some x) (ha : 0 ≤ ac) (h2 : ac ≤ q) (h3 : (q : Int) < ac + 16) :
    Calls Tryd.prog 40 #[.agg #[.slice ba bs.length bc, .int .i64 ac, .int .u64 (l.k : Int), .int .i64 l.i], .int .i64 (q : Int)] w fun e w' => ∃ ad cd, e = .returned (.tuple #[.agg #[.int .i64 (q : Int), .int .i64 l.i, .bool false, .slice ad x.length cd, .int .u64 ((signF l ⟨q, 0, false, x, 0⟩).t : Int)], .agg #[.slice ba bs.length bc, .int .i64 ac, .int .u64 ((nextL l).k : Int), .int .i64 (nextL l).i], .int .i64 0]) ∧ Sl K w' (.slice ad x.length cd) (u8s x) ∧ Keeps (fun _ => False) w w' := by
  have hql : q < bs.length := (List.getElem?_eq_some_iff.1 hq).1
  have hxm := hxb x (List.mem_of_getElem? hq)
  have hfo : (⟨(q : Int), 0, false, x, 0⟩ : Fr).ok := ⟨by show _ ≤ (q : Int); omega, by show (q : Int) ≤ _; omega, by show _ ≤ (0 : Int); omega, by show (0 : Int) ≤ _; omega, hxm.2, by show 0 < _; omega, by show x.length ≤ _; omega⟩
  obtain ⟨bb, bo, rfl, hKb, hbl, hcel⟩ := bds_cells hv (by omega)
  obtain ⟨ad, cd, hcx, hsx⟩ := hcel q x hq
  have HSX := hid (hsx.mono (K' := fun b => K b ∧ b < w.heap.size) (fun b h h2 => ⟨h2, h⟩)); have HCX := hid hcx
  have HSG : Hd (∀ X, Keeps (fun _ => False) w X → Calls Tryd.prog 76 #[.agg #[.slice (some ⟨bb, bo, none⟩) bs.length bc, .int .i64 ac, .int .u64 (l.k : Int), .int .i64 l.i], .agg #[.int .i64 (q : Int), .int .i64 0, .bool false, .slice ad x.length cd, .int .u64 0]] X fun e w' => e = .returned (.tuple #[.agg #[.int .i64 (q : Int), .int .i64 l.i, .bool false, .slice ad x.length cd, .int .u64 ((signF l ⟨q, 0, false, x, 0⟩).t : Int)], .agg #[.slice (some ⟨bb, bo, none⟩) bs.length bc, .int .i64 ac, .int .u64 ((nextL l).k : Int), .int .i64 (nextL l).i]]) ∧ Keeps (fun _ => False) X w') := hid (fun X hx => Rsign_any l ⟨q, 0, false, x, 0⟩ ac (some ⟨bb, bo, none⟩) bs.length bc K ad cd X hl hfo (hsx.keep hx (fun _ _ _ h => h)))
  clear hcel hcx hsx hfo hxb hv hq hxm
  obtain ⟨t, ht⟩ : ∃ t, (signF l ⟨q, 0, false, x, 0⟩).t = t := ⟨_, rfl⟩
  obtain ⟨⟨k5, i5⟩, h5⟩ : ∃ L, nextL l = L := ⟨_, rfl⟩
  obtain ⟨k, i⟩ := l
  rw [ht, h5] at HSG ⊢
  simp only [] at HSG ⊢
  clear ht h5 hl
  obtain ⟨n, hn0⟩ : ∃ n, bs.length = n := ⟨_, rfl⟩
  rw [hn0] at HSG hn hql ⊢
  clear hn0
  obtain ⟨m, hm⟩ : ∃ m, x.length = m := ⟨_, rfl⟩
  rw [hm] at HSG HCX HSX ⊢
  clear hm
  have q0 : ¬ (q : Int) < 0 := by omega
  have q1 : ¬ (n : Int) ≤ q := by omega
  have q2 : ¬ (q : Int) < ac := by omega
  have q3 : IntKind.i64.wrap ((q : Int) - ac) = (q : Int) - ac := IntWalk.i64_in _ (by omega)
  have q4 : ¬ 16 ≤ (q : Int) - ac := by omega
  have q5 : (q : Int) < n := by omega
  have q6 : (0 : Int) ≤ q := by omega
  go_enter Tryd.func40, Tryd.ntmps40
  go_upto_region 1 with fail
  generalize hW : World.alloc (World.alloc (World.alloc w _) _) _ = W1
  have KS : Hd (Keeps (fun _ => False) w W1) := hid (by rw [← hW]; exact (Keeps.alloc (Keeps.alloc (Keeps.alloc (Keeps.refl (fun _ => False) w) _) _) _))
  have HSX' : Hd (Sl (fun b => K b ∧ b < w.heap.size) W1 (.slice ad m cd) (u8s x)) := hid (HSX.out.keep KS.out (fun _ _ _ h => h))
  have BS : Hd (Blk W1 w.heap.size #[(.slice (some ⟨bb, bo, none⟩) n bc), (.int .i64 ac), (.int .u64 (k : Int)), (.int .i64 i)] 57) := hid (by rw [← hW]; exact (blk_alloc (blk_alloc (blk_new _ _ _) _) _))
  have BR1 : Hd (Blk W1 (w.heap.size + 1) #[(.int .i64 0), (.int .i64 0), (.bool false), (.slice none 0 0), (.int .u64 0)] 25) := hid (by rw [← hW]; exact (blk_alloc (blk_new' _ _ _ _ (by simp)) _))
  have BR2 : Hd (Blk W1 (w.heap.size + 1 + 1) #[(.slice none 0 0), (.int .i64 0), (.int .u64 0), (.int .i64 0)] 57) := hid (by rw [← hW]; exact (blk_new' _ _ _ _ (by simp)))
  clear HSX
  have HSX := HSX'
  clear HSX'
  have HK : Hd (Keeps (fun _ => False) w W1) := hid KS.out
  have z_W1 : w.heap.size + 3 ≤ W1.heap.size := by rw [← hW]; simp
  clear hW KS
  generalize hb_BR2 : w.heap.size + 1 + 1 = b_BR2 at *
  generalize hb_BR1 : w.heap.size + 1 = b_BR1 at *
  have ltS := blk_lt BS.out
  have lt1 := blk_lt BR1.out
  have lt2 := blk_lt BR2.out
  have o_BS_0 : W1.cell? ⟨w.heap.size, 0, none⟩ = some ((.slice (some ⟨bb, bo, none⟩) n bc)) := blk_cell BS.out 0
  have o_BS_1 : W1.cell? ⟨w.heap.size, 1, none⟩ = some ((.int .i64 ac)) := blk_cell BS.out 1
  go_upto_region 5 with fail
  clear o_BS_0 o_BS_1
  go_cut [7, 8] from 33 to 44 (fun u7 u8 wx => ∃ bF, u7 = .pointer (some ⟨bF, 0, none⟩) ∧ ∃ bT, u8 = .pointer (some ⟨bT, 0, none⟩) ∧ W1.heap.size ≤ bF ∧ W1.heap.size ≤ bT ∧ Hd (Blk wx bF #[(.int .i64 (q : Int)), (.int .i64 i), (.bool false), (.slice ad m cd), (.int .u64 (t : Int))] 25) ∧ Hd (Blk wx bT #[(.slice (some ⟨bb, bo, none⟩) n bc), (.int .i64 ac), (.int .u64 (k5 : Int)), (.int .i64 i5)] 57) ∧ Hd (Keeps (fun _ => False) W1 wx))
  case first =>
    refine wp_many (C := mkMC 8 [8, 9, 10, 11, 14, 15] [(12, 25, #[(.int .i64 0), (.int .i64 0), (.bool false), (.slice none 0 0), (.int .u64 0)]), (13, 57, #[(.slice none 0 0), (.int .i64 0), (.int .u64 0), (.int .i64 0)])] [(14, 12, 10), (15, 13, 11)] [(fun _ => .agg #[.slice (some ⟨bb, bo, none⟩) n bc, .int .i64 ac, .int .u64 (k : Int), .int .i64 i]), (fun _ => .int .i64 (q : Int)), (fun _ => .pointer (some ⟨w.heap.size, 0, none⟩)), (fun _ => .slice (some ⟨bb, bo, none⟩) n bc), (fun _ => .int .i64 (q : Int)), (fun _ => .pointer (some ⟨bb, bo + q, none⟩)), (fun _ => .slice ad m cd), (fun _ => .agg #[.int .i64 (q : Int), .int .i64 0, .bool false, .slice ad m cd, .int .u64 0]), (fun r => r), (fun r => r), (fun r => tupAt r 0), (fun r => tupAt r 1), (fun _ => undef), (fun _ => undef), (fun _ => undef), (fun _ => undef)] (fun s r => if s = 14 then aggCells (tupAt r 0) else aggCells (tupAt r 1)) (knR2 (.tuple #[.agg #[.int .i64 (q : Int), .int .i64 i, .bool false, .slice ad m cd, .int .u64 (t : Int)], .agg #[.slice (some ⟨bb, bo, none⟩) n bc, .int .i64 ac, .int .u64 (k5 : Int), .int .i64 i5]]))) (by kernel_rfl) ?H ?HV 8 rfl ?HC ?HE
    case H =>
      refine { back := by kernel_rfl, dst := uniqB_spec (by kernel_rfl), szd := underB_spec (by kernel_rfl), val := valB_spec3 (f := mkV [(12, 25, #[(.int .i64 0), (.int .i64 0), (.bool false), (.slice none 0 0), (.int .u64 0)]), (13, 57, #[(.slice none 0 0), (.int .i64 0), (.int .u64 0), (.int .i64 0)])] [(14, 12, 10), (15, 13, 11)]) (by kernel_rfl), alo := ?_, sto := ?_, stc := ?_, all := allB3_spec (f := mkV [(12, 25, #[(.int .i64 0), (.int .i64 0), (.bool false), (.slice none 0 0), (.int .u64 0)]), (13, 57, #[(.slice none 0 0), (.int .i64 0), (.int .u64 0), (.int .i64 0)])] [(14, 12, 10), (15, 13, 11)]) (g := mkA [(12, 25, #[(.int .i64 0), (.int .i64 0), (.bool false), (.slice none 0 0), (.int .u64 0)]), (13, 57, #[(.slice none 0 0), (.int .i64 0), (.int .u64 0), (.int .i64 0)])]) (h := mkS [(14, 12, 10), (15, 13, 11)]) (by kernel_rfl), nva := ?_, nvs := ?_, one := ?_, civ := rfl, nd := ?_, cd := rfl, dd := ?_, sem := fsSem _ _ _ _ _ _ _ _ _ _ (by decide) (by decide) rfl rfl (fun _ _ _ _ _ h _ _ => h) (fun _ _ _ _ h _ => h) (fun _ _ _ h => by subst h; exact ⟨⟨_, _, _, _, _, _, _, rfl⟩, ⟨_, _, _, _, _, _, rfl⟩⟩) }
      · intro j o h0 ha
        have h1 : 12 = j ∨ 13 = j := by simpa [mkMC] using ha
        rcases h1 with rfl | rfl
        all_goals
          have h2 := h0
          simp only [List.getElem?_cons_succ, List.getElem?_cons_zero, Option.some.injEq] at h2
          subst h2
          exact ⟨⟨_, rfl⟩, rfl, rfl⟩
      · intro s o h0 ha
        have h1 : 14 = s ∨ 15 = s := by simpa [mkMC] using ha
        rcases h1 with rfl | rfl
        all_goals
          have h2 := h0
          simp only [List.getElem?_cons_succ, List.getElem?_cons_zero, Option.some.injEq] at h2
          subst h2
          exact ⟨_, _, _, _, rfl, rfl, rfl, rfl, rfl, rfl, rfl, waitsB_spec (by kernel_rfl), waitsB_spec (by kernel_rfl)⟩
      · intro s ha
        have h1 : 14 = s ∨ 15 = s := by simpa [mkMC] using ha
        rcases h1 with rfl | rfl
        all_goals exact ⟨rfl, rfl, rfl, rfl⟩
      · intro s ha
        have h1 : 12 = s ∨ 13 = s := by simpa [mkMC] using ha
        rcases h1 with rfl | rfl
        all_goals exact ⟨rfl, rfl, rfl⟩
      · intro s ha
        have h1 : 14 = s ∨ 15 = s := by simpa [mkMC] using ha
        rcases h1 with rfl | rfl
        all_goals exact ⟨rfl, rfl⟩
      · intro s t ha hb hst
        have h1 : 14 = s ∨ 15 = s := by simpa [mkMC] using ha
        rcases h1 with rfl | rfl
        all_goals (have h2 : 14 = t ∨ 15 = t := by simpa [mkMC] using hb)
        all_goals (rcases h2 with rfl | rfl <;> first | rfl | (simp [mkMC] at hst))
      · intro i r r' hv hD
        match i, hD with
        | 0, _ => rfl
        | 1, _ => rfl
        | 2, _ => rfl
        | 3, _ => rfl
        | 4, _ => rfl
        | 5, _ => rfl
        | 6, _ => rfl
        | 7, _ => rfl
        | 8, h => exact absurd h (by simp [mkMC])
        | 9, h => exact absurd h (by simp [mkMC])
        | 10, h => exact absurd h (by simp [mkMC])
        | 11, h => exact absurd h (by simp [mkMC])
        | 12, _ => rfl
        | 13, _ => rfl
        | 14, h => exact absurd h (by simp [mkMC])
        | 15, h => exact absurd h (by simp [mkMC])
        | n + 16, _ => rfl
      · intro i o h0 hD hne
        match i, h0, hD, hne with
        | 0, _, hD, _ => exact absurd hD (by simp [mkMC])
        | 1, _, hD, _ => exact absurd hD (by simp [mkMC])
        | 2, _, hD, _ => exact absurd hD (by simp [mkMC])
        | 3, _, hD, _ => exact absurd hD (by simp [mkMC])
        | 4, _, hD, _ => exact absurd hD (by simp [mkMC])
        | 5, _, hD, _ => exact absurd hD (by simp [mkMC])
        | 6, _, hD, _ => exact absurd hD (by simp [mkMC])
        | 7, _, hD, _ => exact absurd hD (by simp [mkMC])
        | 8, _, _, hne => exact absurd rfl hne
        | 9, h0, _, _ =>
          simp only [List.getElem?_cons_succ, List.getElem?_cons_zero, Option.some.injEq] at h0
          subst h0
          exact ⟨8, waitsB_spec (by kernel_rfl), rfl⟩
        | 10, h0, _, _ =>
          simp only [List.getElem?_cons_succ, List.getElem?_cons_zero, Option.some.injEq] at h0
          subst h0
          exact ⟨9, waitsB_spec (by kernel_rfl), rfl⟩
        | 11, h0, _, _ =>
          simp only [List.getElem?_cons_succ, List.getElem?_cons_zero, Option.some.injEq] at h0
          subst h0
          exact ⟨9, waitsB_spec (by kernel_rfl), rfl⟩
        | 12, _, hD, _ => exact absurd hD (by simp [mkMC])
        | 13, _, hD, _ => exact absurd hD (by simp [mkMC])
        | 14, h0, _, _ =>
          simp only [List.getElem?_cons_succ, List.getElem?_cons_zero, Option.some.injEq] at h0
          subst h0
          exact ⟨10, waitsB_spec (by kernel_rfl), rfl⟩
        | 15, h0, _, _ =>
          simp only [List.getElem?_cons_succ, List.getElem?_cons_zero, Option.some.injEq] at h0
          subst h0
          exact ⟨11, waitsB_spec (by kernel_rfl), rfl⟩
        | n + 16, h0, _, _ => simp at h0
    case HV =>
      intro iq o hv hne hi aq w' r hk hd hR
      match iq, hv, hne, hi, hR with
      | 0, _, _, hi, hR =>
        have hi1 := hi
        simp only [List.getElem?_cons_succ, List.getElem?_cons_zero, Option.some.injEq] at hi1
        subst hi1
        have e0 : aq.eval (.tmp 2) = .pointer (some ⟨w.heap.size, 0, none⟩) := (hd.out (by kernel_rfl)).trans rfl
        have c0 := keep_cell hk (fun h => h) (blk_cell BS.out 0)
        have c1 := keep_cell hk (fun h => h) (blk_cell BS.out 1)
        have c2 := keep_cell hk (fun h => h) (blk_cell BS.out 2)
        have c3 := keep_cell hk (fun h => h) (blk_cell BS.out 3)
        exact wpOp_ranL hi rfl (v := .agg #[.slice (some ⟨bb, bo, none⟩) n bc, .int .i64 ac, .int .u64 (k : Int), .int .i64 i]) (w' := w') (by simp only [execOp, e0]; go_simp) ⟨rfl, Keeps.refl _ _⟩
      | 1, _, _, hi, hR =>
        have hi1 := hi
        simp only [List.getElem?_cons_succ, List.getElem?_cons_zero, Option.some.injEq] at hi1
        subst hi1
        have e0 : aq.eval (.tmp 1) = .int .i64 (q : Int) := (hd.out (by kernel_rfl)).trans rfl
        exact wpOp_ranL hi rfl (v := .int .i64 (q : Int)) (w' := w') (by simp only [execOp, e0]; rfl) ⟨rfl, Keeps.refl _ _⟩
      | 2, _, _, hi, hR =>
        have hi1 := hi
        simp only [List.getElem?_cons_succ, List.getElem?_cons_zero, Option.some.injEq] at hi1
        subst hi1
        have e0 : aq.eval (.tmp 2) = .pointer (some ⟨w.heap.size, 0, none⟩) := (hd.out (by kernel_rfl)).trans rfl
        exact wpOp_ranL hi rfl (v := .pointer (some ⟨w.heap.size, 0, none⟩)) (w' := w') (by simp only [execOp, e0]; go_simp) ⟨rfl, Keeps.refl _ _⟩
      | 3, _, _, hi, hR =>
        have hi1 := hi
        simp only [List.getElem?_cons_succ, List.getElem?_cons_zero, Option.some.injEq] at hi1
        subst hi1
        have e0 : aq.eval (.tmp 36) = .pointer (some ⟨w.heap.size, 0, none⟩) := hd.val (j := 2) (by kernel_rfl) rfl rfl rfl
        have c0 := keep_cell hk (fun h => h) (blk_cell BS.out 0)
        exact wpOp_ranL hi rfl (v := .slice (some ⟨bb, bo, none⟩) n bc) (w' := w') (by simp only [execOp, e0]; go_simp) ⟨rfl, Keeps.refl _ _⟩
      | 4, _, _, hi, hR =>
        have hi1 := hi
        simp only [List.getElem?_cons_succ, List.getElem?_cons_zero, Option.some.injEq] at hi1
        subst hi1
        have e0 : aq.eval (.tmp 1) = .int .i64 (q : Int) := (hd.out (by kernel_rfl)).trans rfl
        exact wpOp_ranL hi rfl (v := .int .i64 (q : Int)) (w' := w') (by simp only [execOp, e0]; rfl) ⟨rfl, Keeps.refl _ _⟩
      | 5, _, _, hi, hR =>
        have hi1 := hi
        simp only [List.getElem?_cons_succ, List.getElem?_cons_zero, Option.some.injEq] at hi1
        subst hi1
        have e0 : aq.eval (.tmp 37) = .slice (some ⟨bb, bo, none⟩) n bc := hd.val (j := 3) (by kernel_rfl) rfl rfl rfl
        have e1 : aq.eval (.tmp 38) = .int .i64 (q : Int) := hd.val (j := 4) (by kernel_rfl) rfl rfl rfl
        exact wpOp_ranL hi rfl (v := .pointer (some ⟨bb, bo + q, none⟩)) (w' := w') (by simp only [execOp, e0, e1]; go_simp) ⟨rfl, Keeps.refl _ _⟩
      | 6, _, _, hi, hR =>
        have hi1 := hi
        simp only [List.getElem?_cons_succ, List.getElem?_cons_zero, Option.some.injEq] at hi1
        subst hi1
        have e0 : aq.eval (.tmp 39) = .pointer (some ⟨bb, bo + q, none⟩) := hd.val (j := 5) (by kernel_rfl) rfl rfl rfl
        have c0 := keep_cell (HK.out.trans hk) (fun h => h) HCX.out
        exact wpOp_ranL hi rfl (v := .slice ad m cd) (w' := w') (by simp only [execOp, e0]; go_simp) ⟨rfl, Keeps.refl _ _⟩
      | 7, _, _, hi, hR =>
        have hi1 := hi
        simp only [List.getElem?_cons_succ, List.getElem?_cons_zero, Option.some.injEq] at hi1
        subst hi1
        have e0 : aq.eval (.tmp 35) = .int .i64 (q : Int) := hd.val (j := 1) (by kernel_rfl) rfl rfl rfl
        have e1 : aq.eval (.tmp 40) = .slice ad m cd := hd.val (j := 6) (by kernel_rfl) rfl rfl rfl
        exact wpOp_ranL hi rfl (v := .agg #[.int .i64 (q : Int), .int .i64 0, .bool false, .slice ad m cd, .int .u64 0]) (w' := w') (by simp only [execOp, List.map_toArray, List.map_cons, List.map_nil, e0, e1]; go_simp) ⟨rfl, Keeps.refl _ _⟩
      | 8, _, hne, _, _ => exact absurd rfl hne
      | 9, _, _, hi, hR =>
        have hi1 := hi
        simp only [List.getElem?_cons_succ, List.getElem?_cons_zero, Option.some.injEq] at hi1
        subst hi1
        obtain ⟨K, rfl⟩ := hR rfl
        have e0 : aq.eval (.tmp 42) = .tuple #[.agg #[.int .i64 (q : Int), .int .i64 i, .bool false, .slice ad m cd, .int .u64 (t : Int)], .agg #[.slice (some ⟨bb, bo, none⟩) n bc, .int .i64 ac, .int .u64 (k5 : Int), .int .i64 i5]] := hd.val (j := 8) (by kernel_rfl) rfl rfl rfl
        exact wpOp_ranL hi rfl (v := .tuple #[.agg #[.int .i64 (q : Int), .int .i64 i, .bool false, .slice ad m cd, .int .u64 (t : Int)], .agg #[.slice (some ⟨bb, bo, none⟩) n bc, .int .i64 ac, .int .u64 (k5 : Int), .int .i64 i5]]) (w' := w') (by simp only [execOp, e0]; rfl) ⟨rfl, Keeps.refl _ _⟩
      | 10, _, _, hi, hR =>
        have hi1 := hi
        simp only [List.getElem?_cons_succ, List.getElem?_cons_zero, Option.some.injEq] at hi1
        subst hi1
        obtain ⟨K, rfl⟩ := hR rfl
        have e0 : aq.eval (.tmp 33) = .tuple #[.agg #[.int .i64 (q : Int), .int .i64 i, .bool false, .slice ad m cd, .int .u64 (t : Int)], .agg #[.slice (some ⟨bb, bo, none⟩) n bc, .int .i64 ac, .int .u64 (k5 : Int), .int .i64 i5]] := hd.val (j := 9) (by kernel_rfl) rfl rfl rfl
        exact wpOp_ranL hi rfl (v := .agg #[.int .i64 (q : Int), .int .i64 i, .bool false, .slice ad m cd, .int .u64 (t : Int)]) (w' := w') (by simp only [execOp, e0]; rfl) ⟨rfl, Keeps.refl _ _⟩
      | 11, _, _, hi, hR =>
        have hi1 := hi
        simp only [List.getElem?_cons_succ, List.getElem?_cons_zero, Option.some.injEq] at hi1
        subst hi1
        obtain ⟨K, rfl⟩ := hR rfl
        have e0 : aq.eval (.tmp 33) = .tuple #[.agg #[.int .i64 (q : Int), .int .i64 i, .bool false, .slice ad m cd, .int .u64 (t : Int)], .agg #[.slice (some ⟨bb, bo, none⟩) n bc, .int .i64 ac, .int .u64 (k5 : Int), .int .i64 i5]] := hd.val (j := 9) (by kernel_rfl) rfl rfl rfl
        exact wpOp_ranL hi rfl (v := .agg #[.slice (some ⟨bb, bo, none⟩) n bc, .int .i64 ac, .int .u64 (k5 : Int), .int .i64 i5]) (w' := w') (by simp only [execOp, e0]; rfl) ⟨rfl, Keeps.refl _ _⟩
      | 12, hv, _, _, _ => cases hv
      | 13, hv, _, _, _ => cases hv
      | 14, hv, _, _, _ => cases hv
      | 15, hv, _, _, _ => cases hv
      | n + 16, _, _, hi, _ => simp at hi
    case HC =>
      intro o hi aq w' r hk hd
      have hi1 := hi
      simp only [List.getElem?_cons_succ, List.getElem?_cons_zero, Option.some.injEq] at hi1
      subst hi1
      have e0 : aq.eval (.tmp 34) = .agg #[.slice (some ⟨bb, bo, none⟩) n bc, .int .i64 ac, .int .u64 (k : Int), .int .i64 i] := hd.val (j := 0) (by kernel_rfl) rfl rfl rfl
      have e1 : aq.eval (.tmp 41) = .agg #[.int .i64 (q : Int), .int .i64 0, .bool false, .slice ad m cd, .int .u64 0] := hd.val (j := 7) (by kernel_rfl) rfl rfl rfl
      exact wpOp_callL hi rfl (f := 76) (args := #[.agg #[.slice (some ⟨bb, bo, none⟩) n bc, .int .i64 ac, .int .u64 (k : Int), .int .i64 i], .agg #[.int .i64 (q : Int), .int .i64 0, .bool false, .slice ad m cd, .int .u64 0]]) (by simp only [execOp_call_go, List.map_toArray, List.map_cons, List.map_nil, e0, e1]; rfl) ((HSG.out _ (HK.out.trans hk)).mono (fun e w2 ⟨he, hk2⟩ => ⟨_, he, _, rfl, hk2, rfl⟩))
    case HE =>
      intro L aq w' gg r hL hT
      have em := act_mix (bs := [true, true, true, true, true, true, true, false, false, true, true, true, true, true, true, true, true, true, true, true, true, true, true, true, true, true, true, true, true, true, true, true, true, false, false, false, false, false, false, false, false, false, false, false, false, true, true]) hT.sz hT.df hT.fr rfl (by kernel_rfl)
      have hR := hT.c (hL 8 (by decide))
      obtain rfl := hR
      have kW := hT.kp
      obtain ⟨eA12, zA12, cs12, -, bA12, sA12⟩ := hT.al 12 rfl (hL 12 (by decide)) _ 7 rfl rfl
      have sA12 := sA12 14 rfl (hL 14 (by decide)) rfl
      subst sA12
      change aq.tmps.getD 7 undef = _ at eA12
      generalize gg 12 = g12 at *
      obtain ⟨eA13, zA13, cs13, -, bA13, sA13⟩ := hT.al 13 rfl (hL 13 (by decide)) _ 8 rfl rfl
      have sA13 := sA13 15 rfl (hL 15 (by decide)) rfl
      subst sA13
      change aq.tmps.getD 8 undef = _ at eA13
      generalize gg 13 = g13 at *
      clear hT hL
      simp only [mix, eA12, eA13] at em
      clear eA12 eA13
      generalize aq.tmps.getD 34 undef = q34 at em
      generalize aq.tmps.getD 35 undef = q35 at em
      generalize aq.tmps.getD 36 undef = q36 at em
      generalize aq.tmps.getD 37 undef = q37 at em
      generalize aq.tmps.getD 38 undef = q38 at em
      generalize aq.tmps.getD 39 undef = q39 at em
      generalize aq.tmps.getD 40 undef = q40 at em
      generalize aq.tmps.getD 41 undef = q41 at em
      generalize aq.tmps.getD 42 undef = q42 at em
      generalize aq.tmps.getD 33 undef = q33 at em
      generalize aq.tmps.getD 43 undef = q43 at em
      generalize aq.tmps.getD 44 undef = q44 at em
      subst em
      simp only [Exit.then]
      go_wp2_with fail
      go_meet
      exact ⟨g12, rfl, g13, rfl, zA12, zA13, hid bA12, hid bA13, hid kW⟩
  case rest =>
  obtain ⟨b_F, rfl, b_T, rfl, hb_F, hb_T, B_F, B_T, hk⟩ := hcut
  replace hk := hk.out
  generalize wc = W2 at *
  have HSX' : Hd (Sl (fun b => K b ∧ b < w.heap.size) W2 (.slice ad m cd) (u8s x)) := hid (HSX.out.keep hk (fun _ _ _ h => h))
  have BS' : Hd (Blk W2 w.heap.size #[(.slice (some ⟨bb, bo, none⟩) n bc), (.int .i64 ac), (.int .u64 (k : Int)), (.int .i64 i)] 57) := hid (blk_keep BS.out hk (fun h => h))
  have BR1' : Hd (Blk W2 b_BR1 #[(.int .i64 0), (.int .i64 0), (.bool false), (.slice none 0 0), (.int .u64 0)] 25) := hid (blk_keep BR1.out hk (fun h => h))
  have BR2' : Hd (Blk W2 b_BR2 #[(.slice none 0 0), (.int .i64 0), (.int .u64 0), (.int .i64 0)] 57) := hid (blk_keep BR2.out hk (fun h => h))
  clear HSX BS BR1 BR2
  have HSX := HSX'
  clear HSX'
  have BS := BS'
  clear BS'
  have BR1 := BR1'
  clear BR1'
  have BR2 := BR2'
  clear BR2'
  have HK' : Hd (Keeps (fun _ => False) w W2) := hid (HK.out.trans hk)
  clear HK
  have HK := HK'
  clear HK'
  have z_W2 := hk.size
  clear hk
  clear HSG HCX
  have ltF := blk_lt B_F.out
  have ltT := blk_lt B_T.out
  go_upto_region 6 with fail
  go_cut [6] from 45 to 46 (fun u6 wx => u6 = (.int .i64 0) ∧ Hd (Blk wx b_BR1 #[(.int .i64 (q : Int)), (.int .i64 i), (.bool false), (.slice ad m cd), (.int .u64 (t : Int))] 25) ∧ Hd (Blk wx b_BR2 #[(.slice (some ⟨bb, bo, none⟩) n bc), (.int .i64 ac), (.int .u64 (k5 : Int)), (.int .i64 i5)] 57) ∧ Hd (Keeps (fun b => b = b_BR1 ∨ b = b_BR2) W2 wx))
  case first =>
    have KC : Hd (Keeps (fun _ => False) W2 W2) := hid (Keeps.refl _ _)
    have HSS : Hd (∀ w', Keeps (fun b => b = b_BR1 ∨ b = b_BR2) W2 w' → (w'.cell? ⟨b_F, 0, none⟩ = some ((.int .i64 (q : Int))) ∧ w'.cell? ⟨b_F, 1, none⟩ = some ((.int .i64 i)) ∧ w'.cell? ⟨b_F, 2, none⟩ = some ((.bool false)) ∧ w'.cell? ⟨b_F, 3, none⟩ = some ((.slice ad m cd)) ∧ w'.cell? ⟨b_F, 4, none⟩ = some ((.int .u64 (t : Int))) ∧ w'.cell? ⟨b_T, 0, none⟩ = some ((.slice (some ⟨bb, bo, none⟩) n bc)) ∧ w'.cell? ⟨b_T, 1, none⟩ = some ((.int .i64 ac)) ∧ w'.cell? ⟨b_T, 2, none⟩ = some ((.int .u64 (k5 : Int))) ∧ w'.cell? ⟨b_T, 3, none⟩ = some ((.int .i64 i5)))) := hid (fun w' hk => ⟨blk_cell (blk_keep B_F.out hk (fun h => by omega)) 0, blk_cell (blk_keep B_F.out hk (fun h => by omega)) 1, blk_cell (blk_keep B_F.out hk (fun h => by omega)) 2, blk_cell (blk_keep B_F.out hk (fun h => by omega)) 3, blk_cell (blk_keep B_F.out hk (fun h => by omega)) 4, blk_cell (blk_keep B_T.out hk (fun h => by omega)) 0, blk_cell (blk_keep B_T.out hk (fun h => by omega)) 1, blk_cell (blk_keep B_T.out hk (fun h => by omega)) 2, blk_cell (blk_keep B_T.out hk (fun h => by omega)) 3⟩)
    have sF_BR1_0 : W2.cell? ⟨b_BR1, 0, none⟩ = some ((.int .i64 0)) := blk_cell (blk_keep BR1.out KC.out (fun h => h)) 0
    have sG_BR1_0 : W2.frozen? ⟨b_BR1, 0, none⟩ = false := blk_free (blk_keep BR1.out KC.out (fun h => h)) 0
    have sF_BR1_1 : W2.cell? ⟨b_BR1, 1, none⟩ = some ((.int .i64 0)) := blk_cell (blk_keep BR1.out KC.out (fun h => h)) 1
    have sG_BR1_1 : W2.frozen? ⟨b_BR1, 1, none⟩ = false := blk_free (blk_keep BR1.out KC.out (fun h => h)) 1
    have sF_BR1_2 : W2.cell? ⟨b_BR1, 2, none⟩ = some ((.bool false)) := blk_cell (blk_keep BR1.out KC.out (fun h => h)) 2
    have sG_BR1_2 : W2.frozen? ⟨b_BR1, 2, none⟩ = false := blk_free (blk_keep BR1.out KC.out (fun h => h)) 2
    have sF_BR1_3 : W2.cell? ⟨b_BR1, 3, none⟩ = some ((.slice none 0 0)) := blk_cell (blk_keep BR1.out KC.out (fun h => h)) 3
    have sG_BR1_3 : W2.frozen? ⟨b_BR1, 3, none⟩ = false := blk_free (blk_keep BR1.out KC.out (fun h => h)) 3
    have sF_BR1_4 : W2.cell? ⟨b_BR1, 4, none⟩ = some ((.int .u64 0)) := blk_cell (blk_keep BR1.out KC.out (fun h => h)) 4
    have sG_BR1_4 : W2.frozen? ⟨b_BR1, 4, none⟩ = false := blk_free (blk_keep BR1.out KC.out (fun h => h)) 4
    have sF_BR2_0 : W2.cell? ⟨b_BR2, 0, none⟩ = some ((.slice none 0 0)) := blk_cell (blk_keep BR2.out KC.out (fun h => h)) 0
    have sG_BR2_0 : W2.frozen? ⟨b_BR2, 0, none⟩ = false := blk_free (blk_keep BR2.out KC.out (fun h => h)) 0
    have sF_BR2_1 : W2.cell? ⟨b_BR2, 1, none⟩ = some ((.int .i64 0)) := blk_cell (blk_keep BR2.out KC.out (fun h => h)) 1
    have sG_BR2_1 : W2.frozen? ⟨b_BR2, 1, none⟩ = false := blk_free (blk_keep BR2.out KC.out (fun h => h)) 1
    have sF_BR2_2 : W2.cell? ⟨b_BR2, 2, none⟩ = some ((.int .u64 0)) := blk_cell (blk_keep BR2.out KC.out (fun h => h)) 2
    have sG_BR2_2 : W2.frozen? ⟨b_BR2, 2, none⟩ = false := blk_free (blk_keep BR2.out KC.out (fun h => h)) 2
    have sF_BR2_3 : W2.cell? ⟨b_BR2, 3, none⟩ = some ((.int .i64 0)) := blk_cell (blk_keep BR2.out KC.out (fun h => h)) 3
    have sG_BR2_3 : W2.frozen? ⟨b_BR2, 3, none⟩ = false := blk_free (blk_keep BR2.out KC.out (fun h => h)) 3
    have sL_B_F_0 : W2.cell? ⟨b_F, 0, none⟩ = some ((.int .i64 (q : Int))) := blk_cell (blk_keep B_F.out KC.out (fun h => h)) 0
    have sL_B_F_1 : W2.cell? ⟨b_F, 1, none⟩ = some ((.int .i64 i)) := blk_cell (blk_keep B_F.out KC.out (fun h => h)) 1
    have sL_B_F_2 : W2.cell? ⟨b_F, 2, none⟩ = some ((.bool false)) := blk_cell (blk_keep B_F.out KC.out (fun h => h)) 2
    have sL_B_F_3 : W2.cell? ⟨b_F, 3, none⟩ = some ((.slice ad m cd)) := blk_cell (blk_keep B_F.out KC.out (fun h => h)) 3
    have sL_B_F_4 : W2.cell? ⟨b_F, 4, none⟩ = some ((.int .u64 (t : Int))) := blk_cell (blk_keep B_F.out KC.out (fun h => h)) 4
    have sL_B_T_0 : W2.cell? ⟨b_T, 0, none⟩ = some ((.slice (some ⟨bb, bo, none⟩) n bc)) := blk_cell (blk_keep B_T.out KC.out (fun h => h)) 0
    have sL_B_T_1 : W2.cell? ⟨b_T, 1, none⟩ = some ((.int .i64 ac)) := blk_cell (blk_keep B_T.out KC.out (fun h => h)) 1
    have sL_B_T_2 : W2.cell? ⟨b_T, 2, none⟩ = some ((.int .u64 (k5 : Int))) := blk_cell (blk_keep B_T.out KC.out (fun h => h)) 2
    have sL_B_T_3 : W2.cell? ⟨b_T, 3, none⟩ = some ((.int .i64 i5)) := blk_cell (blk_keep B_T.out KC.out (fun h => h)) 3
    have LB_BR1 : ∀ X, Blk X b_BR1 #[(.int .i64 0), (.int .i64 0), (.bool false), (.slice none 0 0), (.int .u64 0)] 25 → Blk (((((X.setCell ⟨b_BR1, 0, none⟩ (.int .i64 (q : Int))).setCell ⟨b_BR1, 1, none⟩ (.int .i64 i)).setCell ⟨b_BR1, 2, none⟩ (.bool false)).setCell ⟨b_BR1, 3, none⟩ (.slice ad m cd)).setCell ⟨b_BR1, 4, none⟩ (.int .u64 (t : Int))) b_BR1 #[(.int .i64 (q : Int)), (.int .i64 i), (.bool false), (.slice ad m cd), (.int .u64 (t : Int))] 25 := fun X h => (blk_set (blk_set (blk_set (blk_set (blk_set h 0 _) 1 _) 2 _) 3 _) 4 _)
    have LO_BR2_BR1 : ∀ X cs T, Blk X b_BR1 cs T → Blk ((((X.setCell ⟨b_BR2, 0, none⟩ (.slice (some ⟨bb, bo, none⟩) n bc)).setCell ⟨b_BR2, 1, none⟩ (.int .i64 ac)).setCell ⟨b_BR2, 2, none⟩ (.int .u64 (k5 : Int))).setCell ⟨b_BR2, 3, none⟩ (.int .i64 i5)) b_BR1 cs T := fun X cs T h => (blk_other (blk_other (blk_other (blk_other h (by omega) _ _) (by omega) _ _) (by omega) _ _) (by omega) _ _)
    have LB_BR2 : ∀ X, Blk X b_BR2 #[(.slice none 0 0), (.int .i64 0), (.int .u64 0), (.int .i64 0)] 57 → Blk ((((X.setCell ⟨b_BR2, 0, none⟩ (.slice (some ⟨bb, bo, none⟩) n bc)).setCell ⟨b_BR2, 1, none⟩ (.int .i64 ac)).setCell ⟨b_BR2, 2, none⟩ (.int .u64 (k5 : Int))).setCell ⟨b_BR2, 3, none⟩ (.int .i64 i5)) b_BR2 #[(.slice (some ⟨bb, bo, none⟩) n bc), (.int .i64 ac), (.int .u64 (k5 : Int)), (.int .i64 i5)] 57 := fun X h => (blk_set (blk_set (blk_set (blk_set h 0 _) 1 _) 2 _) 3 _)
    have LO_BR1_BR2 : ∀ X cs T, Blk X b_BR2 cs T → Blk (((((X.setCell ⟨b_BR1, 0, none⟩ (.int .i64 (q : Int))).setCell ⟨b_BR1, 1, none⟩ (.int .i64 i)).setCell ⟨b_BR1, 2, none⟩ (.bool false)).setCell ⟨b_BR1, 3, none⟩ (.slice ad m cd)).setCell ⟨b_BR1, 4, none⟩ (.int .u64 (t : Int))) b_BR2 cs T := fun X cs T h => (blk_other (blk_other (blk_other (blk_other (blk_other h (by omega) _ _) (by omega) _ _) (by omega) _ _) (by omega) _ _) (by omega) _ _)
    go_region
    all_goals
      go_wp2_with fail
      go_meet
      exact ⟨rfl, hid (by repeat (first | (with_reducible refine LB_BR1 _ ?_) | (with_reducible refine blk_other ?_ (by first | omega | (simp only [World.size_alloc, World.size_drew]; omega) | fail) _ _) | (with_reducible apply blk_drewN) | (with_reducible apply blk_drew) | (with_reducible refine blk_alloc ?_ _) | (with_reducible exact blk_keep BR1.out KC.out (fun h => h)))), hid (by repeat (first | (with_reducible refine LB_BR2 _ ?_) | (with_reducible refine blk_other ?_ (by first | omega | (simp only [World.size_alloc, World.size_drew]; omega) | fail) _ _) | (with_reducible apply blk_drewN) | (with_reducible apply blk_drew) | (with_reducible refine blk_alloc ?_ _) | (with_reducible exact blk_keep BR2.out KC.out (fun h => h)))), hid (by repeat (first | (with_reducible refine Keeps.setCell (S := fun b => b = b_BR1 ∨ b = b_BR2) ?_ (.inl (by first | (with_reducible rfl) | (simp <;> fail) | fail)) _) | (with_reducible apply Keeps.drewN) | (with_reducible apply Keeps.drew) | (with_reducible exact KC.out) | (with_reducible exact Keeps.refl _ _) | (with_reducible exact KC.out.mono (fun _ _ h => h.elim))))⟩
  case rest =>
    obtain ⟨rfl, N_BR1, N_BR2, hk⟩ := hcut
    replace hk := hk.out
    generalize wc = W3 at *
    have HSX' : Hd (Sl (fun b => K b ∧ b < w.heap.size) W3 (.slice ad m cd) (u8s x)) := hid (HSX.out.keep hk (fun b h1 h2 h3 => by have := h2.2; omega))
    have BS' : Hd (Blk W3 w.heap.size #[(.slice (some ⟨bb, bo, none⟩) n bc), (.int .i64 ac), (.int .u64 (k : Int)), (.int .i64 i)] 57) := hid (blk_keep BS.out hk (fun h => by omega))
    have B_F' : Hd (Blk W3 b_F #[(.int .i64 (q : Int)), (.int .i64 i), (.bool false), (.slice ad m cd), (.int .u64 (t : Int))] 25) := hid (blk_keep B_F.out hk (fun h => by omega))
    have B_T' : Hd (Blk W3 b_T #[(.slice (some ⟨bb, bo, none⟩) n bc), (.int .i64 ac), (.int .u64 (k5 : Int)), (.int .i64 i5)] 57) := hid (blk_keep B_T.out hk (fun h => by omega))
    clear HSX BS B_F B_T
    have HSX := HSX'
    clear HSX'
    have BS := BS'
    clear BS'
    have B_F := B_F'
    clear B_F'
    have B_T := B_T'
    clear B_T'
    clear BR1
    have BR1 := N_BR1
    clear N_BR1
    clear BR2
    have BR2 := N_BR2
    clear N_BR2
    have HK' : Hd (Keeps (fun _ => False) w W3) := hid (HK.out.trans' hk (fun i hi h => by omega))
    clear HK
    have HK := HK'
    clear HK'
    have z_W3 := hk.size
    clear hk
    go_wp2
    have rr_BR1_0 := blk_cell BR1.out 0
    have rr_BR1_1 := blk_cell BR1.out 1
    have rr_BR1_2 := blk_cell BR1.out 2
    have rr_BR1_3 := blk_cell BR1.out 3
    have rr_BR1_4 := blk_cell BR1.out 4
    have rr_BR2_0 := blk_cell BR2.out 0
    have rr_BR2_1 := blk_cell BR2.out 1
    have rr_BR2_2 := blk_cell BR2.out 2
    have rr_BR2_3 := blk_cell BR2.out 3
    refine bodyPost_ret (v := .tuple #[.agg #[(.int .i64 (q : Int)), (.int .i64 i), (.bool false), (.slice ad m cd), (.int .u64 (t : Int))], .agg #[(.slice (some ⟨bb, bo, none⟩) n bc), (.int .i64 ac), (.int .u64 (k5 : Int)), (.int .i64 i5)], .int .i64 0]) (by simp [results, Tryd.results40, go_sem, rr_BR1_0, rr_BR1_1, rr_BR1_2, rr_BR1_3, rr_BR1_4, rr_BR2_0, rr_BR2_1, rr_BR2_2, rr_BR2_3]) rfl ?_
    exact ⟨ad, cd, rfl, HSX.out.mono (fun b _ h => h.1), HK.out⟩
end Go.Proofs.YthoikljmokkchaaDoor
namespace Go.Proofs.YthoikljmokkchaaDoor
open Go.RowKit Go.Shelf
attribute [local go_sem ↓] Go.wp_at_zero Go.wp_at_succ
set_option maxRecDepth 100000 in
set_option maxHeartbeats 4000000 in
theorem RConfirm_any (n : Nat) (ba : Option Addr) (bc : Nat) (ac : Int) (l : Ld) (nx ha ky : Int) (lk : Bool) (w : World) (hl : l.ok) (hky : ky ≤ 1000000000) :
    Calls Tryd.prog 46 #[.agg #[.slice ba n bc, .int .i64 ac, .int .u64 (l.k : Int), .int .i64 l.i], .agg #[.int .i64 nx, .int .i64 ha, .int .i64 ky, .bool lk]] w fun e w' => e = .returned (.agg #[.slice ba n bc, .int .i64 (ackN ac nx n), .int .u64 ((confL l ky).k : Int), .int .i64 (confL l ky).i]) ∧ Keeps (fun _ => False) w w' := by
  have HLO := hid hl
  clear hl
  obtain ⟨k, i⟩ := l
  have hi0 := HLO.out.i0; have hi1 := HLO.out.i1
  simp only [] at *
  obtain ⟨st, hst⟩ : ∃ st, (ky - i).toNat = st := ⟨_, rfl⟩
  have HCF : Hd (confL ⟨k, i⟩ ky = ⟨iterN st k, i + (st : Int)⟩) := hid (by unfold confL; simp only []; rw [hst])
  have hst1 : ky ≤ i + (st : Int) := by omega
  have hst2 : st = 0 ∨ i + (st : Int) = ky := by omega
  have hst3 : i + (st : Int) ≤ 1000000000000 := by omega
  have HAC : Hd (ackN ac nx n = max ac (min nx n)) := hid rfl
  obtain ⟨A, hA⟩ : ∃ A, ackN ac nx n = A := ⟨_, rfl⟩
  rw [hA] at HAC ⊢
  clear hA hst
  go_enter Tryd.func46, Tryd.ntmps46
  go_upto_region 1 with fail
  generalize hW : World.alloc (World.alloc (World.alloc w _) _) _ = W1
  have KS : Hd (Keeps (fun _ => False) w W1) := hid (by rw [← hW]; exact (Keeps.alloc (Keeps.alloc (Keeps.alloc (Keeps.refl (fun _ => False) w) _) _) _))
  have BS : Hd (Blk W1 w.heap.size #[(.slice ba n bc), (.int .i64 ac), (.int .u64 (k : Int)), (.int .i64 i)] 57) := hid (by rw [← hW]; exact (blk_alloc (blk_alloc (blk_new _ _ _) _) _))
  have BP : Hd (Blk W1 (w.heap.size + 1) #[(.int .i64 nx), (.int .i64 ha), (.int .i64 ky), (.bool lk)] 50) := hid (by rw [← hW]; exact (blk_alloc (blk_new' _ _ _ _ (by simp)) _))
  have BR : Hd (Blk W1 (w.heap.size + 1 + 1) #[(.slice none 0 0), (.int .i64 0), (.int .u64 0), (.int .i64 0)] 57) := hid (by rw [← hW]; exact (blk_new' _ _ _ _ (by simp)))
  have HK : Hd (Keeps (fun _ => False) w W1) := hid KS.out
  have z_W1 : w.heap.size + 3 ≤ W1.heap.size := by rw [← hW]; simp
  clear hW KS
  generalize hb_BR : w.heap.size + 1 + 1 = b_BR at *
  generalize hb_BP : w.heap.size + 1 = b_BP at *
  have hc1 : nx ≤ (n : Int) ∨ (n : Int) < nx := by omega
  rcases hc1 with hc1 | hc1
  · have hmn : min nx (n : Int) = nx := by omega
    rcases Int.lt_or_le ac nx with hc2 | hc2
    · have HAV : Hd (A = nx) := hid (by rw [HAC.out, hmn]; omega)
      clear hmn HAC
      have o_BS_0 : W1.cell? ⟨w.heap.size, 0, none⟩ = some ((.slice ba n bc)) := blk_cell BS.out 0
      have o_BS_1 : W1.cell? ⟨w.heap.size, 1, none⟩ = some ((.int .i64 ac)) := blk_cell BS.out 1
      have o_BP_0 : W1.cell? ⟨b_BP, 0, none⟩ = some ((.int .i64 nx)) := blk_cell BP.out 0
      have f_BS_1 : W1.frozen? ⟨w.heap.size, 1, none⟩ = false := blk_free BS.out 1
      go_upto_region 2 with fail
      clear o_BS_0 o_BS_1 o_BP_0 f_BS_1
      clear hc1 hc2
      generalize hW : World.setCell W1 _ _ = W2
      have KS : Hd (Keeps (fun b => b = w.heap.size) W1 W2) := hid (by rw [← hW]; exact (Keeps.setCell (S := fun b => b = w.heap.size) (p := ⟨w.heap.size, 1, none⟩) (Keeps.refl (fun b => b = w.heap.size) W1) (.inl rfl) _))
      have BS' : Hd (Blk W2 w.heap.size #[(.slice ba n bc), (.int .i64 nx), (.int .u64 (k : Int)), (.int .i64 i)] 57) := hid (by rw [← hW]; exact (blk_set BS.out 1 _))
      have BP' : Hd (Blk W2 b_BP #[(.int .i64 nx), (.int .i64 ha), (.int .i64 ky), (.bool lk)] 50) := hid (by rw [← hW]; exact (blk_other BP.out (by omega) _ _))
      have BR' : Hd (Blk W2 b_BR #[(.slice none 0 0), (.int .i64 0), (.int .u64 0), (.int .i64 0)] 57) := hid (by rw [← hW]; exact (blk_other BR.out (by omega) _ _))
      clear BS BP BR
      have BS := BS'
      clear BS'
      have BP := BP'
      clear BP'
      have BR := BR'
      clear BR'
      have HK' : Hd (Keeps (fun _ => False) w W2) := hid (HK.out.trans' KS.out (fun i hi h => by omega))
      clear HK
      have HK := HK'
      clear HK'
      have z_W2 : W1.heap.size + 0 ≤ W2.heap.size := by rw [← hW]; simp
      clear hW KS
      go_wp2_with fail
      go_loopw [] (fun wr => ∃ j : Nat, j ≤ st ∧ Hd (Blk wr w.heap.size #[.slice ba n bc, .int .i64 nx, .int .u64 ((iterN j k : Nat) : Int), .int .i64 (i + (j : Int))] 57) ∧ Hd (Keeps (fun b => b = w.heap.size) W2 wr)) (fun wr => match wr.cell? ⟨w.heap.size, 3, none⟩ with | some (.int _ z) => (ky - z).toNat | _ => 0)
      case atStart => exact ⟨0, Nat.zero_le _, hid (by have h := BS.out; simpa [iterN] using h), hid (Keeps.refl _ _)⟩
      case round =>
        obtain ⟨X, rfl⟩ : ∃ X, X = wr := ⟨_, rfl⟩
        obtain ⟨j, hj, HB, HX2⟩ := hrel
        have p2 : X.cell? ⟨b_BP, 2, none⟩ = some (.int .i64 ky) := blk_cell (blk_keep BP.out HX2.out (fun h => by omega)) 2
        have p3 : X.cell? ⟨w.heap.size, 3, none⟩ = some (.int .i64 (i + (j : Int))) := blk_cell HB.out 3
        by_cases hlt : i + (j : Int) < ky
        · have hjs : j < st := by omega
          have HL := hid (iterN_lt HLO.out.k j)
          have HS : Hd (iterN (j + 1) k = stepN (iterN j k)) := hid rfl
          have o2 : X.cell? ⟨w.heap.size, 2, none⟩ = some (.int .u64 ((iterN j k : Nat) : Int)) := blk_cell HB.out 2
          have f2 : X.frozen? ⟨w.heap.size, 2, none⟩ = false := blk_free HB.out 2
          have f3 : X.frozen? ⟨w.heap.size, 3, none⟩ = false := blk_free HB.out 3
          generalize iterN j k = x at *
          have hcall := RLSign_any ⟨x, i + (j : Int)⟩ (fun _ => True) (.slice none 0 0) [] X ⟨HL.out, by show 0 ≤ i + (j : Int); omega, by show i + (j : Int) ≤ _; omega⟩ (Sl.nil _ _) (by simp) (by simp)
          simp only [← HS.out] at hcall
          obtain ⟨y, hy⟩ : ∃ y, iterN (j + 1) k = y := ⟨_, rfl⟩
          rw [hy] at hcall
          have HY := hid hy
          have HC := hid hcall
          clear hcall hy
          go_wp2_with fail
          refine (HC.out).mono ?_
          rintro e X2 ⟨rfl, hk⟩
          clear HC
          have HB2 := hid (blk_keep HB.out hk (fun h => h))
          have g2 : X2.cell? ⟨w.heap.size, 2, none⟩ = some (.int .u64 (x : Int)) := blk_cell HB2.out 2
          have g3 : X2.cell? ⟨w.heap.size, 3, none⟩ = some (.int .i64 (i + (j : Int))) := blk_cell HB2.out 3
          have h2 : X2.frozen? ⟨w.heap.size, 2, none⟩ = false := blk_free HB2.out 2
          have h3 : X2.frozen? ⟨w.heap.size, 3, none⟩ = false := blk_free HB2.out 3
          have HX3 : Hd (Keeps (fun b => b = w.heap.size) W2 X2) := hid (HX2.out.trans (hk.mono (fun _ _ h => h.elim)))
          clear hk o2 f2 f3
          go_wp2
          go_roundw
          case rel => exact ⟨j + 1, by omega, hid (by have h := blk_set (blk_set HB2.out 2 (.int .u64 (y : Int))) 3 (.int .i64 (i + (j : Int) + 1)); rw [HY.out, show i + ((j + 1 : Nat) : Int) = i + (j : Int) + 1 by omega]; exact h), hid ((HX3.out.setCell (.inl rfl) _).setCell (.inl rfl) _)⟩
          case measure =>
            have e1 := blk_cell (blk_set (blk_set HB2.out 2 (.int .u64 (y : Int))) 3 (.int .i64 (i + (j : Int) + 1))) 3
            rw [show ((X2.setCell ⟨w.heap.size, 2, none⟩ (.int .u64 (y : Int))).setCell ⟨w.heap.size, 3, none⟩ (.int .i64 (i + (j : Int) + 1))).cell? ⟨w.heap.size, 3, none⟩ = some (.int .i64 (i + (j : Int) + 1)) from e1, p3]
            simp only []
            omega
        · have hjs : j = st := by omega
          subst hjs
          obtain ⟨x, hx⟩ : ∃ x, iterN j k = x := ⟨_, rfl⟩
          have HCX := HCF
          rw [hx] at HB HCX
          clear hx
          have HK2 : Hd (Keeps (fun _ => False) w X) := hid (HK.out.trans' HX2.out (fun b hb h => by omega))
          have BX := hid (blk_keep BR.out HX2.out (fun h => by omega))
          have o0 : X.cell? ⟨w.heap.size, 0, none⟩ = some ((.slice ba n bc)) := blk_cell HB.out 0
          have o1 : X.cell? ⟨w.heap.size, 1, none⟩ = some ((.int .i64 nx)) := blk_cell HB.out 1
          have o2 : X.cell? ⟨w.heap.size, 2, none⟩ = some ((.int .u64 (x : Int))) := blk_cell HB.out 2
          have b0 : X.cell? ⟨b_BR, 0, none⟩ = some ((.slice none 0 0)) := blk_cell BX.out 0
          have b1 : X.cell? ⟨b_BR, 1, none⟩ = some ((.int .i64 0)) := blk_cell BX.out 1
          have b2 : X.cell? ⟨b_BR, 2, none⟩ = some ((.int .u64 0)) := blk_cell BX.out 2
          have b3 : X.cell? ⟨b_BR, 3, none⟩ = some ((.int .i64 0)) := blk_cell BX.out 3
          have y0 : X.frozen? ⟨b_BR, 0, none⟩ = false := blk_free BX.out 0
          have y1 : X.frozen? ⟨b_BR, 1, none⟩ = false := blk_free BX.out 1
          have y2 : X.frozen? ⟨b_BR, 2, none⟩ = false := blk_free BX.out 2
          have y3 : X.frozen? ⟨b_BR, 3, none⟩ = false := blk_free BX.out 3
          go_wp2
          clear o0 o1 o2 b0 b1 b2 b3 y0 y1 y2 y3
          obtain ⟨HV2, B3⟩ := fin4 HK2.out (show w.heap.size ≤ b_BR by omega) BX.out (.slice ba n bc) (.int .i64 nx) (.int .u64 (x : Int)) (.int .i64 (i + (j : Int)))
          have r0 := blk_cell B3 0
          have r1 := blk_cell B3 1
          have r2 := blk_cell B3 2
          have r3 := blk_cell B3 3
          refine bodyPost_ret (v := .agg #[(.slice ba n bc), (.int .i64 nx), (.int .u64 (x : Int)), (.int .i64 (i + (j : Int)))]) (by simp [results, Tryd.results46, go_sem, r0, r1, r2, r3]) rfl ?_
          exact ⟨by rw [HAV.out, HCX.out], HV2⟩
    · have HAV : Hd (A = ac) := hid (by rw [HAC.out, hmn]; omega)
      clear hmn HAC
      have o_BS_0 : W1.cell? ⟨w.heap.size, 0, none⟩ = some ((.slice ba n bc)) := blk_cell BS.out 0
      have o_BS_1 : W1.cell? ⟨w.heap.size, 1, none⟩ = some ((.int .i64 ac)) := blk_cell BS.out 1
      have o_BP_0 : W1.cell? ⟨b_BP, 0, none⟩ = some ((.int .i64 nx)) := blk_cell BP.out 0
      have f_BS_1 : W1.frozen? ⟨w.heap.size, 1, none⟩ = false := blk_free BS.out 1
      go_upto_region 2 with fail
      clear o_BS_0 o_BS_1 o_BP_0 f_BS_1
      clear hc1 hc2
      generalize hW : World.setCell W1 _ _ = W2
      have KS : Hd (Keeps (fun b => b = w.heap.size) W1 W2) := hid (by rw [← hW]; exact (Keeps.setCell (S := fun b => b = w.heap.size) (p := ⟨w.heap.size, 1, none⟩) (Keeps.refl (fun b => b = w.heap.size) W1) (.inl rfl) _))
      have BS' : Hd (Blk W2 w.heap.size #[(.slice ba n bc), (.int .i64 ac), (.int .u64 (k : Int)), (.int .i64 i)] 57) := hid (by rw [← hW]; exact (blk_set BS.out 1 _))
      have BP' : Hd (Blk W2 b_BP #[(.int .i64 nx), (.int .i64 ha), (.int .i64 ky), (.bool lk)] 50) := hid (by rw [← hW]; exact (blk_other BP.out (by omega) _ _))
      have BR' : Hd (Blk W2 b_BR #[(.slice none 0 0), (.int .i64 0), (.int .u64 0), (.int .i64 0)] 57) := hid (by rw [← hW]; exact (blk_other BR.out (by omega) _ _))
      clear BS BP BR
      have BS := BS'
      clear BS'
      have BP := BP'
      clear BP'
      have BR := BR'
      clear BR'
      have HK' : Hd (Keeps (fun _ => False) w W2) := hid (HK.out.trans' KS.out (fun i hi h => by omega))
      clear HK
      have HK := HK'
      clear HK'
      have z_W2 : W1.heap.size + 0 ≤ W2.heap.size := by rw [← hW]; simp
      clear hW KS
      go_wp2_with fail
      go_loopw [] (fun wr => ∃ j : Nat, j ≤ st ∧ Hd (Blk wr w.heap.size #[.slice ba n bc, .int .i64 ac, .int .u64 ((iterN j k : Nat) : Int), .int .i64 (i + (j : Int))] 57) ∧ Hd (Keeps (fun b => b = w.heap.size) W2 wr)) (fun wr => match wr.cell? ⟨w.heap.size, 3, none⟩ with | some (.int _ z) => (ky - z).toNat | _ => 0)
      case atStart => exact ⟨0, Nat.zero_le _, hid (by have h := BS.out; simpa [iterN] using h), hid (Keeps.refl _ _)⟩
      case round =>
        obtain ⟨X, rfl⟩ : ∃ X, X = wr := ⟨_, rfl⟩
        obtain ⟨j, hj, HB, HX2⟩ := hrel
        have p2 : X.cell? ⟨b_BP, 2, none⟩ = some (.int .i64 ky) := blk_cell (blk_keep BP.out HX2.out (fun h => by omega)) 2
        have p3 : X.cell? ⟨w.heap.size, 3, none⟩ = some (.int .i64 (i + (j : Int))) := blk_cell HB.out 3
        by_cases hlt : i + (j : Int) < ky
        · have hjs : j < st := by omega
          have HL := hid (iterN_lt HLO.out.k j)
          have HS : Hd (iterN (j + 1) k = stepN (iterN j k)) := hid rfl
          have o2 : X.cell? ⟨w.heap.size, 2, none⟩ = some (.int .u64 ((iterN j k : Nat) : Int)) := blk_cell HB.out 2
          have f2 : X.frozen? ⟨w.heap.size, 2, none⟩ = false := blk_free HB.out 2
          have f3 : X.frozen? ⟨w.heap.size, 3, none⟩ = false := blk_free HB.out 3
          generalize iterN j k = x at *
          have hcall := RLSign_any ⟨x, i + (j : Int)⟩ (fun _ => True) (.slice none 0 0) [] X ⟨HL.out, by show 0 ≤ i + (j : Int); omega, by show i + (j : Int) ≤ _; omega⟩ (Sl.nil _ _) (by simp) (by simp)
          simp only [← HS.out] at hcall
          obtain ⟨y, hy⟩ : ∃ y, iterN (j + 1) k = y := ⟨_, rfl⟩
          rw [hy] at hcall
          have HY := hid hy
          have HC := hid hcall
          clear hcall hy
          go_wp2_with fail
          refine (HC.out).mono ?_
          rintro e X2 ⟨rfl, hk⟩
          clear HC
          have HB2 := hid (blk_keep HB.out hk (fun h => h))
          have g2 : X2.cell? ⟨w.heap.size, 2, none⟩ = some (.int .u64 (x : Int)) := blk_cell HB2.out 2
          have g3 : X2.cell? ⟨w.heap.size, 3, none⟩ = some (.int .i64 (i + (j : Int))) := blk_cell HB2.out 3
          have h2 : X2.frozen? ⟨w.heap.size, 2, none⟩ = false := blk_free HB2.out 2
          have h3 : X2.frozen? ⟨w.heap.size, 3, none⟩ = false := blk_free HB2.out 3
          have HX3 : Hd (Keeps (fun b => b = w.heap.size) W2 X2) := hid (HX2.out.trans (hk.mono (fun _ _ h => h.elim)))
          clear hk o2 f2 f3
          go_wp2
          go_roundw
          case rel => exact ⟨j + 1, by omega, hid (by have h := blk_set (blk_set HB2.out 2 (.int .u64 (y : Int))) 3 (.int .i64 (i + (j : Int) + 1)); rw [HY.out, show i + ((j + 1 : Nat) : Int) = i + (j : Int) + 1 by omega]; exact h), hid ((HX3.out.setCell (.inl rfl) _).setCell (.inl rfl) _)⟩
          case measure =>
            have e1 := blk_cell (blk_set (blk_set HB2.out 2 (.int .u64 (y : Int))) 3 (.int .i64 (i + (j : Int) + 1))) 3
            rw [show ((X2.setCell ⟨w.heap.size, 2, none⟩ (.int .u64 (y : Int))).setCell ⟨w.heap.size, 3, none⟩ (.int .i64 (i + (j : Int) + 1))).cell? ⟨w.heap.size, 3, none⟩ = some (.int .i64 (i + (j : Int) + 1)) from e1, p3]
            simp only []
            omega
        · have hjs : j = st := by omega
          subst hjs
          obtain ⟨x, hx⟩ : ∃ x, iterN j k = x := ⟨_, rfl⟩
          have HCX := HCF
          rw [hx] at HB HCX
          clear hx
          have HK2 : Hd (Keeps (fun _ => False) w X) := hid (HK.out.trans' HX2.out (fun b hb h => by omega))
          have BX := hid (blk_keep BR.out HX2.out (fun h => by omega))
          have o0 : X.cell? ⟨w.heap.size, 0, none⟩ = some ((.slice ba n bc)) := blk_cell HB.out 0
          have o1 : X.cell? ⟨w.heap.size, 1, none⟩ = some ((.int .i64 ac)) := blk_cell HB.out 1
          have o2 : X.cell? ⟨w.heap.size, 2, none⟩ = some ((.int .u64 (x : Int))) := blk_cell HB.out 2
          have b0 : X.cell? ⟨b_BR, 0, none⟩ = some ((.slice none 0 0)) := blk_cell BX.out 0
          have b1 : X.cell? ⟨b_BR, 1, none⟩ = some ((.int .i64 0)) := blk_cell BX.out 1
          have b2 : X.cell? ⟨b_BR, 2, none⟩ = some ((.int .u64 0)) := blk_cell BX.out 2
          have b3 : X.cell? ⟨b_BR, 3, none⟩ = some ((.int .i64 0)) := blk_cell BX.out 3
          have y0 : X.frozen? ⟨b_BR, 0, none⟩ = false := blk_free BX.out 0
          have y1 : X.frozen? ⟨b_BR, 1, none⟩ = false := blk_free BX.out 1
          have y2 : X.frozen? ⟨b_BR, 2, none⟩ = false := blk_free BX.out 2
          have y3 : X.frozen? ⟨b_BR, 3, none⟩ = false := blk_free BX.out 3
          go_wp2
          clear o0 o1 o2 b0 b1 b2 b3 y0 y1 y2 y3
          obtain ⟨HV2, B3⟩ := fin4 HK2.out (show w.heap.size ≤ b_BR by omega) BX.out (.slice ba n bc) (.int .i64 ac) (.int .u64 (x : Int)) (.int .i64 (i + (j : Int)))
          have r0 := blk_cell B3 0
          have r1 := blk_cell B3 1
          have r2 := blk_cell B3 2
          have r3 := blk_cell B3 3
          refine bodyPost_ret (v := .agg #[(.slice ba n bc), (.int .i64 ac), (.int .u64 (x : Int)), (.int .i64 (i + (j : Int)))]) (by simp [results, Tryd.results46, go_sem, r0, r1, r2, r3]) rfl ?_
          exact ⟨by rw [HAV.out, HCX.out], HV2⟩
  · have hmn : min nx (n : Int) = (n : Int) := by omega
    rcases Int.lt_or_le ac (n : Int) with hc2 | hc2
    · have HAV : Hd (A = (n : Int)) := hid (by rw [HAC.out, hmn]; omega)
      clear hmn HAC
      have o_BS_0 : W1.cell? ⟨w.heap.size, 0, none⟩ = some ((.slice ba n bc)) := blk_cell BS.out 0
      have o_BS_1 : W1.cell? ⟨w.heap.size, 1, none⟩ = some ((.int .i64 ac)) := blk_cell BS.out 1
      have o_BP_0 : W1.cell? ⟨b_BP, 0, none⟩ = some ((.int .i64 nx)) := blk_cell BP.out 0
      have f_BS_1 : W1.frozen? ⟨w.heap.size, 1, none⟩ = false := blk_free BS.out 1
      go_upto_region 2 with fail
      clear o_BS_0 o_BS_1 o_BP_0 f_BS_1
      clear hc1 hc2
      generalize hW : World.setCell W1 _ _ = W2
      have KS : Hd (Keeps (fun b => b = w.heap.size) W1 W2) := hid (by rw [← hW]; exact (Keeps.setCell (S := fun b => b = w.heap.size) (p := ⟨w.heap.size, 1, none⟩) (Keeps.refl (fun b => b = w.heap.size) W1) (.inl rfl) _))
      have BS' : Hd (Blk W2 w.heap.size #[(.slice ba n bc), (.int .i64 (n : Int)), (.int .u64 (k : Int)), (.int .i64 i)] 57) := hid (by rw [← hW]; exact (blk_set BS.out 1 _))
      have BP' : Hd (Blk W2 b_BP #[(.int .i64 nx), (.int .i64 ha), (.int .i64 ky), (.bool lk)] 50) := hid (by rw [← hW]; exact (blk_other BP.out (by omega) _ _))
      have BR' : Hd (Blk W2 b_BR #[(.slice none 0 0), (.int .i64 0), (.int .u64 0), (.int .i64 0)] 57) := hid (by rw [← hW]; exact (blk_other BR.out (by omega) _ _))
      clear BS BP BR
      have BS := BS'
      clear BS'
      have BP := BP'
      clear BP'
      have BR := BR'
      clear BR'
      have HK' : Hd (Keeps (fun _ => False) w W2) := hid (HK.out.trans' KS.out (fun i hi h => by omega))
      clear HK
      have HK := HK'
      clear HK'
      have z_W2 : W1.heap.size + 0 ≤ W2.heap.size := by rw [← hW]; simp
      clear hW KS
      go_wp2_with fail
      go_loopw [] (fun wr => ∃ j : Nat, j ≤ st ∧ Hd (Blk wr w.heap.size #[.slice ba n bc, .int .i64 (n : Int), .int .u64 ((iterN j k : Nat) : Int), .int .i64 (i + (j : Int))] 57) ∧ Hd (Keeps (fun b => b = w.heap.size) W2 wr)) (fun wr => match wr.cell? ⟨w.heap.size, 3, none⟩ with | some (.int _ z) => (ky - z).toNat | _ => 0)
      case atStart => exact ⟨0, Nat.zero_le _, hid (by have h := BS.out; simpa [iterN] using h), hid (Keeps.refl _ _)⟩
      case round =>
        obtain ⟨X, rfl⟩ : ∃ X, X = wr := ⟨_, rfl⟩
        obtain ⟨j, hj, HB, HX2⟩ := hrel
        have p2 : X.cell? ⟨b_BP, 2, none⟩ = some (.int .i64 ky) := blk_cell (blk_keep BP.out HX2.out (fun h => by omega)) 2
        have p3 : X.cell? ⟨w.heap.size, 3, none⟩ = some (.int .i64 (i + (j : Int))) := blk_cell HB.out 3
        by_cases hlt : i + (j : Int) < ky
        · have hjs : j < st := by omega
          have HL := hid (iterN_lt HLO.out.k j)
          have HS : Hd (iterN (j + 1) k = stepN (iterN j k)) := hid rfl
          have o2 : X.cell? ⟨w.heap.size, 2, none⟩ = some (.int .u64 ((iterN j k : Nat) : Int)) := blk_cell HB.out 2
          have f2 : X.frozen? ⟨w.heap.size, 2, none⟩ = false := blk_free HB.out 2
          have f3 : X.frozen? ⟨w.heap.size, 3, none⟩ = false := blk_free HB.out 3
          generalize iterN j k = x at *
          have hcall := RLSign_any ⟨x, i + (j : Int)⟩ (fun _ => True) (.slice none 0 0) [] X ⟨HL.out, by show 0 ≤ i + (j : Int); omega, by show i + (j : Int) ≤ _; omega⟩ (Sl.nil _ _) (by simp) (by simp)
          simp only [← HS.out] at hcall
          obtain ⟨y, hy⟩ : ∃ y, iterN (j + 1) k = y := ⟨_, rfl⟩
          rw [hy] at hcall
          have HY := hid hy
          have HC := hid hcall
          clear hcall hy
          go_wp2_with fail
          refine (HC.out).mono ?_
          rintro e X2 ⟨rfl, hk⟩
          clear HC
          have HB2 := hid (blk_keep HB.out hk (fun h => h))
          have g2 : X2.cell? ⟨w.heap.size, 2, none⟩ = some (.int .u64 (x : Int)) := blk_cell HB2.out 2
          have g3 : X2.cell? ⟨w.heap.size, 3, none⟩ = some (.int .i64 (i + (j : Int))) := blk_cell HB2.out 3
          have h2 : X2.frozen? ⟨w.heap.size, 2, none⟩ = false := blk_free HB2.out 2
          have h3 : X2.frozen? ⟨w.heap.size, 3, none⟩ = false := blk_free HB2.out 3
          have HX3 : Hd (Keeps (fun b => b = w.heap.size) W2 X2) := hid (HX2.out.trans (hk.mono (fun _ _ h => h.elim)))
          clear hk o2 f2 f3
          go_wp2
          go_roundw
          case rel => exact ⟨j + 1, by omega, hid (by have h := blk_set (blk_set HB2.out 2 (.int .u64 (y : Int))) 3 (.int .i64 (i + (j : Int) + 1)); rw [HY.out, show i + ((j + 1 : Nat) : Int) = i + (j : Int) + 1 by omega]; exact h), hid ((HX3.out.setCell (.inl rfl) _).setCell (.inl rfl) _)⟩
          case measure =>
            have e1 := blk_cell (blk_set (blk_set HB2.out 2 (.int .u64 (y : Int))) 3 (.int .i64 (i + (j : Int) + 1))) 3
            rw [show ((X2.setCell ⟨w.heap.size, 2, none⟩ (.int .u64 (y : Int))).setCell ⟨w.heap.size, 3, none⟩ (.int .i64 (i + (j : Int) + 1))).cell? ⟨w.heap.size, 3, none⟩ = some (.int .i64 (i + (j : Int) + 1)) from e1, p3]
            simp only []
            omega
        · have hjs : j = st := by omega
          subst hjs
          obtain ⟨x, hx⟩ : ∃ x, iterN j k = x := ⟨_, rfl⟩
          have HCX := HCF
          rw [hx] at HB HCX
          clear hx
          have HK2 : Hd (Keeps (fun _ => False) w X) := hid (HK.out.trans' HX2.out (fun b hb h => by omega))
          have BX := hid (blk_keep BR.out HX2.out (fun h => by omega))
          have o0 : X.cell? ⟨w.heap.size, 0, none⟩ = some ((.slice ba n bc)) := blk_cell HB.out 0
          have o1 : X.cell? ⟨w.heap.size, 1, none⟩ = some ((.int .i64 (n : Int))) := blk_cell HB.out 1
          have o2 : X.cell? ⟨w.heap.size, 2, none⟩ = some ((.int .u64 (x : Int))) := blk_cell HB.out 2
          have b0 : X.cell? ⟨b_BR, 0, none⟩ = some ((.slice none 0 0)) := blk_cell BX.out 0
          have b1 : X.cell? ⟨b_BR, 1, none⟩ = some ((.int .i64 0)) := blk_cell BX.out 1
          have b2 : X.cell? ⟨b_BR, 2, none⟩ = some ((.int .u64 0)) := blk_cell BX.out 2
          have b3 : X.cell? ⟨b_BR, 3, none⟩ = some ((.int .i64 0)) := blk_cell BX.out 3
          have y0 : X.frozen? ⟨b_BR, 0, none⟩ = false := blk_free BX.out 0
          have y1 : X.frozen? ⟨b_BR, 1, none⟩ = false := blk_free BX.out 1
          have y2 : X.frozen? ⟨b_BR, 2, none⟩ = false := blk_free BX.out 2
          have y3 : X.frozen? ⟨b_BR, 3, none⟩ = false := blk_free BX.out 3
          go_wp2
          clear o0 o1 o2 b0 b1 b2 b3 y0 y1 y2 y3
          obtain ⟨HV2, B3⟩ := fin4 HK2.out (show w.heap.size ≤ b_BR by omega) BX.out (.slice ba n bc) (.int .i64 (n : Int)) (.int .u64 (x : Int)) (.int .i64 (i + (j : Int)))
          have r0 := blk_cell B3 0
          have r1 := blk_cell B3 1
          have r2 := blk_cell B3 2
          have r3 := blk_cell B3 3
          refine bodyPost_ret (v := .agg #[(.slice ba n bc), (.int .i64 (n : Int)), (.int .u64 (x : Int)), (.int .i64 (i + (j : Int)))]) (by simp [results, Tryd.results46, go_sem, r0, r1, r2, r3]) rfl ?_
          exact ⟨by rw [HAV.out, HCX.out], HV2⟩
    · have HAV : Hd (A = ac) := hid (by rw [HAC.out, hmn]; omega)
      clear hmn HAC
      have o_BS_0 : W1.cell? ⟨w.heap.size, 0, none⟩ = some ((.slice ba n bc)) := blk_cell BS.out 0
      have o_BS_1 : W1.cell? ⟨w.heap.size, 1, none⟩ = some ((.int .i64 ac)) := blk_cell BS.out 1
      have o_BP_0 : W1.cell? ⟨b_BP, 0, none⟩ = some ((.int .i64 nx)) := blk_cell BP.out 0
      have f_BS_1 : W1.frozen? ⟨w.heap.size, 1, none⟩ = false := blk_free BS.out 1
      go_upto_region 2 with fail
      clear o_BS_0 o_BS_1 o_BP_0 f_BS_1
      clear hc1 hc2
      generalize hW : World.setCell W1 _ _ = W2
      have KS : Hd (Keeps (fun b => b = w.heap.size) W1 W2) := hid (by rw [← hW]; exact (Keeps.setCell (S := fun b => b = w.heap.size) (p := ⟨w.heap.size, 1, none⟩) (Keeps.refl (fun b => b = w.heap.size) W1) (.inl rfl) _))
      have BS' : Hd (Blk W2 w.heap.size #[(.slice ba n bc), (.int .i64 ac), (.int .u64 (k : Int)), (.int .i64 i)] 57) := hid (by rw [← hW]; exact (blk_set BS.out 1 _))
      have BP' : Hd (Blk W2 b_BP #[(.int .i64 nx), (.int .i64 ha), (.int .i64 ky), (.bool lk)] 50) := hid (by rw [← hW]; exact (blk_other BP.out (by omega) _ _))
      have BR' : Hd (Blk W2 b_BR #[(.slice none 0 0), (.int .i64 0), (.int .u64 0), (.int .i64 0)] 57) := hid (by rw [← hW]; exact (blk_other BR.out (by omega) _ _))
      clear BS BP BR
      have BS := BS'
      clear BS'
      have BP := BP'
      clear BP'
      have BR := BR'
      clear BR'
      have HK' : Hd (Keeps (fun _ => False) w W2) := hid (HK.out.trans' KS.out (fun i hi h => by omega))
      clear HK
      have HK := HK'
      clear HK'
      have z_W2 : W1.heap.size + 0 ≤ W2.heap.size := by rw [← hW]; simp
      clear hW KS
      go_wp2_with fail
      go_loopw [] (fun wr => ∃ j : Nat, j ≤ st ∧ Hd (Blk wr w.heap.size #[.slice ba n bc, .int .i64 ac, .int .u64 ((iterN j k : Nat) : Int), .int .i64 (i + (j : Int))] 57) ∧ Hd (Keeps (fun b => b = w.heap.size) W2 wr)) (fun wr => match wr.cell? ⟨w.heap.size, 3, none⟩ with | some (.int _ z) => (ky - z).toNat | _ => 0)
      case atStart => exact ⟨0, Nat.zero_le _, hid (by have h := BS.out; simpa [iterN] using h), hid (Keeps.refl _ _)⟩
      case round =>
        obtain ⟨X, rfl⟩ : ∃ X, X = wr := ⟨_, rfl⟩
        obtain ⟨j, hj, HB, HX2⟩ := hrel
        have p2 : X.cell? ⟨b_BP, 2, none⟩ = some (.int .i64 ky) := blk_cell (blk_keep BP.out HX2.out (fun h => by omega)) 2
        have p3 : X.cell? ⟨w.heap.size, 3, none⟩ = some (.int .i64 (i + (j : Int))) := blk_cell HB.out 3
        by_cases hlt : i + (j : Int) < ky
        · have hjs : j < st := by omega
          have HL := hid (iterN_lt HLO.out.k j)
          have HS : Hd (iterN (j + 1) k = stepN (iterN j k)) := hid rfl
          have o2 : X.cell? ⟨w.heap.size, 2, none⟩ = some (.int .u64 ((iterN j k : Nat) : Int)) := blk_cell HB.out 2
          have f2 : X.frozen? ⟨w.heap.size, 2, none⟩ = false := blk_free HB.out 2
          have f3 : X.frozen? ⟨w.heap.size, 3, none⟩ = false := blk_free HB.out 3
          generalize iterN j k = x at *
          have hcall := RLSign_any ⟨x, i + (j : Int)⟩ (fun _ => True) (.slice none 0 0) [] X ⟨HL.out, by show 0 ≤ i + (j : Int); omega, by show i + (j : Int) ≤ _; omega⟩ (Sl.nil _ _) (by simp) (by simp)
          simp only [← HS.out] at hcall
          obtain ⟨y, hy⟩ : ∃ y, iterN (j + 1) k = y := ⟨_, rfl⟩
          rw [hy] at hcall
          have HY := hid hy
          have HC := hid hcall
          clear hcall hy
          go_wp2_with fail
          refine (HC.out).mono ?_
          rintro e X2 ⟨rfl, hk⟩
          clear HC
          have HB2 := hid (blk_keep HB.out hk (fun h => h))
          have g2 : X2.cell? ⟨w.heap.size, 2, none⟩ = some (.int .u64 (x : Int)) := blk_cell HB2.out 2
          have g3 : X2.cell? ⟨w.heap.size, 3, none⟩ = some (.int .i64 (i + (j : Int))) := blk_cell HB2.out 3
          have h2 : X2.frozen? ⟨w.heap.size, 2, none⟩ = false := blk_free HB2.out 2
          have h3 : X2.frozen? ⟨w.heap.size, 3, none⟩ = false := blk_free HB2.out 3
          have HX3 : Hd (Keeps (fun b => b = w.heap.size) W2 X2) := hid (HX2.out.trans (hk.mono (fun _ _ h => h.elim)))
          clear hk o2 f2 f3
          go_wp2
          go_roundw
          case rel => exact ⟨j + 1, by omega, hid (by have h := blk_set (blk_set HB2.out 2 (.int .u64 (y : Int))) 3 (.int .i64 (i + (j : Int) + 1)); rw [HY.out, show i + ((j + 1 : Nat) : Int) = i + (j : Int) + 1 by omega]; exact h), hid ((HX3.out.setCell (.inl rfl) _).setCell (.inl rfl) _)⟩
          case measure =>
            have e1 := blk_cell (blk_set (blk_set HB2.out 2 (.int .u64 (y : Int))) 3 (.int .i64 (i + (j : Int) + 1))) 3
            rw [show ((X2.setCell ⟨w.heap.size, 2, none⟩ (.int .u64 (y : Int))).setCell ⟨w.heap.size, 3, none⟩ (.int .i64 (i + (j : Int) + 1))).cell? ⟨w.heap.size, 3, none⟩ = some (.int .i64 (i + (j : Int) + 1)) from e1, p3]
            simp only []
            omega
        · have hjs : j = st := by omega
          subst hjs
          obtain ⟨x, hx⟩ : ∃ x, iterN j k = x := ⟨_, rfl⟩
          have HCX := HCF
          rw [hx] at HB HCX
          clear hx
          have HK2 : Hd (Keeps (fun _ => False) w X) := hid (HK.out.trans' HX2.out (fun b hb h => by omega))
          have BX := hid (blk_keep BR.out HX2.out (fun h => by omega))
          have o0 : X.cell? ⟨w.heap.size, 0, none⟩ = some ((.slice ba n bc)) := blk_cell HB.out 0
          have o1 : X.cell? ⟨w.heap.size, 1, none⟩ = some ((.int .i64 ac)) := blk_cell HB.out 1
          have o2 : X.cell? ⟨w.heap.size, 2, none⟩ = some ((.int .u64 (x : Int))) := blk_cell HB.out 2
          have b0 : X.cell? ⟨b_BR, 0, none⟩ = some ((.slice none 0 0)) := blk_cell BX.out 0
          have b1 : X.cell? ⟨b_BR, 1, none⟩ = some ((.int .i64 0)) := blk_cell BX.out 1
          have b2 : X.cell? ⟨b_BR, 2, none⟩ = some ((.int .u64 0)) := blk_cell BX.out 2
          have b3 : X.cell? ⟨b_BR, 3, none⟩ = some ((.int .i64 0)) := blk_cell BX.out 3
          have y0 : X.frozen? ⟨b_BR, 0, none⟩ = false := blk_free BX.out 0
          have y1 : X.frozen? ⟨b_BR, 1, none⟩ = false := blk_free BX.out 1
          have y2 : X.frozen? ⟨b_BR, 2, none⟩ = false := blk_free BX.out 2
          have y3 : X.frozen? ⟨b_BR, 3, none⟩ = false := blk_free BX.out 3
          go_wp2
          clear o0 o1 o2 b0 b1 b2 b3 y0 y1 y2 y3
          obtain ⟨HV2, B3⟩ := fin4 HK2.out (show w.heap.size ≤ b_BR by omega) BX.out (.slice ba n bc) (.int .i64 ac) (.int .u64 (x : Int)) (.int .i64 (i + (j : Int)))
          have r0 := blk_cell B3 0
          have r1 := blk_cell B3 1
          have r2 := blk_cell B3 2
          have r3 := blk_cell B3 3
          refine bodyPost_ret (v := .agg #[(.slice ba n bc), (.int .i64 ac), (.int .u64 (x : Int)), (.int .i64 (i + (j : Int)))]) (by simp [results, Tryd.results46, go_sem, r0, r1, r2, r3]) rfl ?_
          exact ⟨by rw [HAV.out, HCX.out], HV2⟩
theorem hasI_bit {nx q : Int} {h : Nat} (hh : h < 4611686018427387904) (hq : nx < q) : hasI nx (h : Int) q = decide (h / 2 ^ ((q - nx).toNat - 1) % 2 = 1) := by
  rw [hasI_nat hh, decide_eq_true hq, Bool.true_and, Nat.testBit_eq_decide_div_mod_eq]; rfl
theorem hasI_low {nx q ha : Int} (hq : ¬ nx < q) : hasI nx ha q = false := by unfold hasI; rw [decide_eq_false hq, Bool.false_and]
set_option maxRecDepth 100000 in
set_option maxHeartbeats 4000000 in
theorem RHas_any (nx : Int) (h : Nat) (ky : Int) (lk : Bool) (q : Int) (w : World) (hh : h ≤ 1000000000000) (hn0 : 0 ≤ nx) (hn1 : nx ≤ 1000000000) (hq0 : 0 ≤ q) (hq1 : q ≤ 1000000000) :
    Calls Tryd.prog 78 #[.agg #[.int .i64 nx, .int .i64 (h : Int), .int .i64 ky, .bool lk], .int .i64 q] w fun e w' => e = .returned (.bool (hasI nx (h : Int) q)) ∧ Keeps (fun _ => False) w w' := by
  obtain ⟨B, hB⟩ : ∃ B, hasI nx (h : Int) q = B := ⟨_, rfl⟩
  rw [hB]
  have HB := hid hB
  clear hB
  go_enter Tryd.func78, Tryd.ntmps78
  go_upto_region 1 with fail
  generalize hW : World.alloc w _ = W1
  have KS : Hd (Keeps (fun _ => False) w W1) := hid (by rw [← hW]; exact (Keeps.alloc (Keeps.refl (fun _ => False) w) _))
  have BP : Hd (Blk W1 w.heap.size #[(.int .i64 nx), (.int .i64 (h : Int)), (.int .i64 ky), (.bool lk)] 50) := hid (by rw [← hW]; exact (blk_new _ _ _))
  have HK : Hd (Keeps (fun _ => False) w W1) := hid KS.out
  have z_W1 : w.heap.size + 1 ≤ W1.heap.size := by rw [← hW]; simp
  clear hW KS
  have o_BP_0 : W1.cell? ⟨w.heap.size, 0, none⟩ = some ((.int .i64 nx)) := blk_cell BP.out 0
  have o_BP_1 : W1.cell? ⟨w.heap.size, 1, none⟩ = some ((.int .i64 (h : Int))) := blk_cell BP.out 1
  have hw1 : IntKind.i64.wrap (nx + 1) = nx + 1 := IntWalk.i64_in _ (by omega)
  obtain ⟨st, hst⟩ : ∃ st, (q - nx).toNat - 1 = st := ⟨_, rfl⟩
  have HST := hid hst
  have hs1 : nx < q → nx + 1 + (st : Int) = q := by omega
  have hs2 : ¬ nx < q → st = 0 := by omega
  clear hst
  go_wp2_with fail
  go_loopw [5, 6] (fun hv iv wr => ∃ k : Nat, hv = .int .i64 ((h / 2 ^ k : Nat) : Int) ∧ iv = .int .i64 (nx + 1 + (k : Int)) ∧ k ≤ st ∧ Hd (Keeps (fun _ => False) W1 wr)) (fun _ iv _ => (q - intOf iv).toNat)
  case atStart => exact ⟨0, by simp, by simp, Nat.zero_le _, hid (Keeps.refl _ _)⟩
  case round =>
    obtain ⟨X, rfl⟩ : ∃ X, X = wr := ⟨_, rfl⟩
    obtain ⟨k, rfl, rfl, hk, HX2⟩ := hrel
    have x0 : X.cell? ⟨w.heap.size, 0, none⟩ = some (.int .i64 nx) := blk_cell (blk_keep BP.out HX2.out (fun h => h)) 0
    by_cases hlt : nx + 1 + (k : Int) < q
    · have HD : Hd (h / 2 ^ (k + 1) = h / 2 ^ k / 2) := hid (by rw [Nat.pow_succ, Nat.div_div_eq_div_mul])
      have hxb : h / 2 ^ k ≤ h := Nat.div_le_self _ _
      obtain ⟨x, hx⟩ : ∃ x, h / 2 ^ k = x := ⟨_, rfl⟩
      rw [hx] at HD hxb ⊢
      clear hx
      have e1 : IntKind.i64.wrap ((x : Int) / 2) = ((x / 2 : Nat) : Int) := by rw [IntWalk.i64_in _ (by omega)]; rfl
      have e2 : (x : Int).tdiv 2 = ((x / 2 : Nat) : Int) := rfl
      have e3 : IntKind.i64.wrap ((x / 2 : Nat) : Int) = ((x / 2 : Nat) : Int) := IntWalk.i64_in _ (by omega)
      have e4 : IntKind.i64.wrap (nx + 1 + (k : Int) + 1) = nx + 1 + (k : Int) + 1 := IntWalk.i64_in _ (by omega)
      go_wp2_with fail
      go_roundw
      case rel => exact ⟨k + 1, by rw [HD.out]; first | rfl | simp | (simp only [Int.natCast_ediv]; rfl), by first | rfl | (congr 1; push_cast; omega), by omega, HX2⟩
      case measure => simp [intOf]; omega
    · by_cases hgt : nx < q
      · have hks : k = st := by omega
        subst hks
        have HBV : Hd (B = decide (h / 2 ^ k % 2 = 1)) := hid (by rw [← HB.out, hasI_bit (by omega) hgt, HST.out])
        obtain ⟨x, hx⟩ : ∃ x, h / 2 ^ k = x := ⟨_, rfl⟩
        rw [hx] at HBV ⊢
        clear hx
        have ht : (x : Int).tmod 2 = ((x % 2 : Nat) : Int) := rfl
        by_cases h1 : x % 2 = 1
        · have m1 : ((x : Int).tmod 2 == 1) = true := by rw [ht]; rw [h1]; rfl
          have m2 : ((x : Int) % 2 == 1) = true := by rw [show ((x : Int) % 2) = ((x % 2 : Nat) : Int) from rfl]; rw [show x % 2 = 1 by omega]; rfl
          skip
          have HBW : Hd (B = true) := hid (by rw [HBV.out]; simp [h1])
          clear ht h1
          go_wp2_with fail
          go_ret
          exact ⟨by rw [HBW.out]; rfl, HK.out.trans HX2.out⟩
        · have m1 : ((x : Int).tmod 2 == 1) = false := by rw [ht]; rw [show x % 2 = 0 by omega]; rfl
          have m2 : ((x : Int) % 2 == 1) = false := by rw [show ((x : Int) % 2) = ((x % 2 : Nat) : Int) from rfl]; rw [show x % 2 = 0 by omega]; rfl
          skip
          have HBW : Hd (B = false) := hid (by rw [HBV.out]; simp [h1])
          clear ht h1
          go_wp2_with fail
          go_ret
          exact ⟨by rw [HBW.out]; rfl, HK.out.trans HX2.out⟩
      · have hks : k = 0 := by omega
        have HBW : Hd (B = false) := hid (by rw [← HB.out]; exact hasI_low hgt)
        go_wp2_with fail
        go_ret
        exact ⟨by rw [HBW.out]; rfl, HK.out.trans HX2.out⟩
set_option maxRecDepth 100000 in
set_option maxHeartbeats 4000000 in
theorem RMissing_any (n : Nat) (ba : Option Addr) (bc : Nat) (ac : Int) (l : Ld) (nx : Int) (h : Nat) (ky : Int) (lk : Bool) (w : World) (hn : n ≤ 100000) (hnx : 0 ≤ nx) (hnx2 : nx ≤ 1000000) (hac : 0 ≤ ac) (hac2 : ac ≤ 1000000) (hh : h ≤ 1000000000000) :
    Calls Tryd.prog 49 #[.agg #[.slice ba n bc, .int .i64 ac, .int .u64 (l.k : Int), .int .i64 l.i], .agg #[.int .i64 nx, .int .i64 (h : Int), .int .i64 ky, .bool lk]] w fun e w' => ∃ a m c, e = .returned (.slice a m c) ∧ Own (fun b => w.heap.size ≤ b) w' 3 1 (.slice a m c) m (i64s (if lk then [] else misI nx (h : Int) (max ac nx) (min (max ac nx + 16) (n : Int) - max ac nx).toNat)) ∧ m = (if lk then [] else misI nx (h : Int) (max ac nx) (min (max ac nx + 16) (n : Int) - max ac nx).toNat).length ∧ Keeps (fun _ => False) w w' := by
  obtain ⟨lk1, li⟩ := l
  simp only [] at *
  obtain ⟨i0, hi, hz0, hz1, hz2⟩ := parts1 infoI64h
  go_enter Tryd.func49, Tryd.ntmps49
  go_upto_region 1 with fail
  generalize hW : World.alloc (World.alloc w _) _ = W1
  have KS : Hd (Keeps (fun _ => False) w W1) := hid (by rw [← hW]; exact (Keeps.alloc (Keeps.alloc (Keeps.refl (fun _ => False) w) _) _))
  have BS : Hd (Blk W1 w.heap.size #[(.slice ba n bc), (.int .i64 ac), (.int .u64 (lk1 : Int)), (.int .i64 li)] 57) := hid (by rw [← hW]; exact (blk_alloc (blk_new _ _ _) _))
  have BR : Hd (Blk W1 (w.heap.size + 1) #[(.int .i64 nx), (.int .i64 (h : Int)), (.int .i64 ky), (.bool lk)] 50) := hid (by rw [← hW]; exact (blk_new' _ _ _ _ (by simp)))
  have HK : Hd (Keeps (fun _ => False) w W1) := hid KS.out
  have z_W1 : w.heap.size + 2 ≤ W1.heap.size := by rw [← hW]; simp
  clear hW KS
  generalize hb_BR : w.heap.size + 1 = b_BR at *
  have o_BS_1 : W1.cell? ⟨w.heap.size, 1, none⟩ = some ((.int .i64 ac)) := blk_cell BS.out 1
  have o_BR_0 : W1.cell? ⟨b_BR, 0, none⟩ = some ((.int .i64 nx)) := blk_cell BR.out 0
  go_upto_region 3 with fail
  obtain ⟨fm, hfm⟩ : ∃ fm, (if ac < nx then nx else ac) = fm := ⟨_, rfl⟩
  rw [hfm]
  have hfx : max ac nx = fm := by rw [← hfm]; split <;> omega
  have HFX := hid hfx
  have hf0 : 0 ≤ fm := by omega
  have hf1 : fm ≤ 1000000 := by omega
  have hf2 : nx ≤ fm := by omega
  clear hfm hfx
  obtain ⟨st, hst⟩ : ∃ st, (min (fm + 16) (n : Int) - fm).toNat = st := ⟨_, rfl⟩
  have HST := hid hst
  have hs3 : st ≤ 16 := by omega
  have hs4 : ∀ k : Nat, k < st → fm + (k : Int) < n := by intro k hk; omega
  have hs5 : ∀ k : Nat, ¬ k < st → ¬ (fm + (k : Int) < fm + 16 ∧ fm + (k : Int) < n) := by intro k hk; omega
  have HS4 := hid hs4; have HS5 := hid hs5
  clear hst hs4 hs5
  have hw16 : IntKind.i64.wrap (fm + 16) = fm + 16 := IntWalk.i64_in _ (by omega)
  clear o_BS_1 o_BR_0
  cases lk with
  | true =>
    have p0 : W1.cell? ⟨w.heap.size, 0, none⟩ = some (.slice ba n bc) := blk_cell BS.out 0
    have p3 : W1.cell? ⟨b_BR, 3, none⟩ = some (.bool true) := blk_cell BR.out 3
    go_wp2_with fail
    go_loopw [5, 7] (fun lv sv wr => lv = .slice none 0 0 ∧ sv = .int .i64 fm ∧ Hd (Keeps (fun _ => False) W1 wr)) (fun _ _ _ => 0)
    case atStart => exact ⟨rfl, rfl, hid (Keeps.refl _ _)⟩
    case round =>
      obtain ⟨V, rfl⟩ : ∃ V, V = wr := ⟨_, rfl⟩
      obtain ⟨rfl, rfl, HX2⟩ := hrel
      have p0 : V.cell? ⟨w.heap.size, 0, none⟩ = some (.slice ba n bc) := blk_cell (blk_keep BS.out HX2.out (fun h => h)) 0
      have p3 : V.cell? ⟨b_BR, 3, none⟩ = some (.bool true) := blk_cell (blk_keep BR.out HX2.out (fun h => h)) 3
      have hlt : fm < fm + 16 := by omega
      by_cases hn2 : fm < (n : Int)
      all_goals
        go_wp2
        go_ret
        exact ⟨none, 0, 0, rfl, Own.nil _ _ _ _, rfl, HK.out.trans HX2.out⟩
  | false =>
    go_wp2_with fail
    go_loopw [5, 7] (fun lv sv wr => ∃ (k m : Nat) (a : Option Addr) (c : Nat), lv = .slice a m c ∧ sv = .int .i64 (fm + (k : Int)) ∧ k ≤ st ∧ m = (misI nx (h : Int) fm k).length ∧ Hd (Own (fun b => W1.heap.size ≤ b) wr 3 1 (.slice a m c) m (i64s (misI nx (h : Int) fm k))) ∧ Hd (Keeps (fun _ => False) W1 wr)) (fun _ sv _ => (fm + (st : Int) - intOf sv).toNat)
    case atStart => exact ⟨0, 0, none, 0, rfl, by first | rfl | go_num | simp, Nat.zero_le _, rfl, hid (Own.nil _ _ _ _), hid (Keeps.refl _ _)⟩
    case round =>
      obtain ⟨V, rfl⟩ : ∃ V, V = wr := ⟨_, rfl⟩
      obtain ⟨k, m, a, c, rfl, rfl, hk, hm, HO, HX2⟩ := hrel
      have zV := HX2.out.size
      have HM := hid hm
      have hmk : m ≤ k := by rw [hm]; exact misI_len _ _ _ _
      clear hm
      have p0 : V.cell? ⟨w.heap.size, 0, none⟩ = some (.slice ba n bc) := blk_cell (blk_keep BS.out HX2.out (fun h => h)) 0
      have p1 : V.cell? ⟨b_BR, 0, none⟩ = some (.int .i64 nx) := blk_cell (blk_keep BR.out HX2.out (fun h => h)) 0
      have p2 : V.cell? ⟨b_BR, 1, none⟩ = some (.int .i64 (h : Int)) := blk_cell (blk_keep BR.out HX2.out (fun h => h)) 1
      have p3 : V.cell? ⟨b_BR, 2, none⟩ = some (.int .i64 ky) := blk_cell (blk_keep BR.out HX2.out (fun h => h)) 2
      have p4 : V.cell? ⟨b_BR, 3, none⟩ = some (.bool false) := blk_cell (blk_keep BR.out HX2.out (fun h => h)) 3
      by_cases hlt : k < st
      · have hl1 : fm + (k : Int) < fm + 16 := by omega
        have hl2 : fm + (k : Int) < (n : Int) := HS4.out k hlt
        have HH : Hd (Calls Tryd.prog 78 #[.agg #[.int .i64 nx, .int .i64 (h : Int), .int .i64 ky, .bool false], .int .i64 (fm + (k : Int))] V fun e w' => e = .returned (.bool (hasI nx (h : Int) (fm + (k : Int)))) ∧ Keeps (fun _ => False) V w') := hid (RHas_any nx h ky false (fm + (k : Int)) V hh hnx (by omega) (by omega) (by omega))
        cases he : hasI nx (h : Int) (fm + (k : Int))
        · rw [he] at HH
          have HN : Hd (misI nx (h : Int) fm (k + 1) = misI nx (h : Int) fm k ++ [fm + (k : Int)]) := hid (misI_no he)
          clear he
          go_wp2_with fail
          refine HH.out.mono ?_
          rintro e X ⟨rfl, hk2⟩
          have HOX := hid (HO.out.keep hk2 (fun _ _ _ h => h))
          have HX3 := hid (HX2.out.trans hk2)
          have zX := HX3.out.size
          clear HH HO HX2 hk2 p0 p1 p2 p3 p4
          go_wp2_with (at_builtin; refine wpList_append_row rfl _ _ 61 rfl 3 i0 (.int .i64 0) 1 8 Tryd.underlying61 hi hz0 hz1 hz2 rfl (by decide) _ (fun _ => True) _ _ _ _ rfl (HOX.out.alloc _) 1 _ rfl (src_one _ _ trivial) (by intro u hu; simp at hu; subst hu; rfl) ?h1 ?h2 ?_)
          case h1 => simp [maxLen]; omega
          case h2 => omega
          intro a1 cap1 w2 hown' hgrow; try intro _
          have H5 := hid hown'
          have HK5 : Hd (Keeps (fun b => W1.heap.size ≤ b) X w2) := hid ((keeps_alloc _ X _).trans hgrow)
          clear hown' hgrow
          go_wp2
          go_roundw
          case rel =>
            refine ⟨k + 1, m + 1, a1, cap1, by first | rfl | go_num, by first | rfl | go_num, by omega, by rw [HN.out, List.length_append, ← HM.out]; rfl, hid ?_, hid (HX3.out.trans' HK5.out (fun i hi h => by omega))⟩
            have := H5.out.mono (K' := fun b => W1.heap.size ≤ b) (fun b _ hb => by rcases hb with hb | hb; exact hb; (have h' := hb; (try simp at h'); omega))
            rw [HN.out, i64s_append]; exact this
          case measure => simp [intOf]; omega
        · rw [he] at HH
          have HN : Hd (misI nx (h : Int) fm (k + 1) = misI nx (h : Int) fm k) := hid (misI_yes he)
          clear he
          go_wp2_with fail
          refine HH.out.mono ?_
          rintro e X ⟨rfl, hk2⟩
          have HOX := hid (HO.out.keep hk2 (fun _ _ _ h => h))
          have HX3 := hid (HX2.out.trans hk2)
          have zX := HX3.out.size
          clear HH HO HX2 hk2 p0 p1 p2 p3 p4
          go_wp2_with fail
          go_roundw
          case rel => exact ⟨k + 1, m, a, c, rfl, by first | rfl | go_num, by omega, by rw [HN.out]; exact HM.out, hid (by rw [HN.out]; exact HOX.out), HX3⟩
          case measure => simp [intOf]; omega
      · have hkn : k = st := by omega
        have hl3 := HS5.out k hlt
        by_cases hl1 : fm + (k : Int) < fm + 16
        · have hl2 : ¬ fm + (k : Int) < (n : Int) := fun h => hl3 ⟨hl1, h⟩
          clear hl3
          go_wp2
          go_ret
          rw [HFX.out, HST.out, ← hkn]
          exact ⟨a, m, c, rfl, HO.out.mono (fun b _ h => by have := HK.out.size; omega), HM.out, HK.out.trans HX2.out⟩
        · clear hl3
          go_wp2
          go_ret
          rw [HFX.out, HST.out, ← hkn]
          exact ⟨a, m, c, rfl, HO.out.mono (fun b _ h => by have := HK.out.size; omega), HM.out, HK.out.trans HX2.out⟩
def toldM (a : AC) : Rp := ⟨around a.n 60, around a.m 32768, around a.m 90, around a.m 7 == 3⟩
set_option maxRecDepth 100000 in
set_option maxHeartbeats 4000000 in
theorem told_any (x : AC) (ad : Option Addr) (xl cd : Nat) (w : World) (hx : AcOk x) :
    Calls Tryd.prog 45 #[.agg #[.int .i64 x.kd, .int .i64 x.n, .int .i64 x.m, .slice ad xl cd]] w fun e w' => e = .returned (.agg #[.int .i64 (toldM x).nx, .int .i64 (toldM x).ha, .int .i64 (toldM x).ky, .bool (toldM x).lk]) ∧ Keeps (fun _ => False) w w' := by
  go_enter Tryd.func45, Tryd.ntmps45
  go_upto_region 1 with fail
  generalize hW : World.alloc (World.alloc w _) _ = W1
  have KS : Hd (Keeps (fun _ => False) w W1) := hid (by rw [← hW]; exact (Keeps.alloc (Keeps.alloc (Keeps.refl (fun _ => False) w) _) _))
  have BA : Hd (Blk W1 w.heap.size #[(.int .i64 x.kd), (.int .i64 x.n), (.int .i64 x.m), (.slice ad xl cd)] 39) := hid (by rw [← hW]; exact (blk_alloc (blk_new _ _ _) _))
  have BR : Hd (Blk W1 (w.heap.size + 1) #[(.int .i64 0), (.int .i64 0), (.int .i64 0), (.bool false)] 50) := hid (by rw [← hW]; exact (blk_new' _ _ _ _ (by simp)))
  have HK : Hd (Keeps (fun _ => False) w W1) := hid KS.out
  have z_W1 : w.heap.size + 2 ≤ W1.heap.size := by rw [← hW]; simp
  clear hW KS
  have ea1 := fun x : Ext W1 => ext_bcell BA.out 1 rfl x
  have ea2 := fun x : Ext W1 => ext_bcell BA.out 2 rfl x
  have er0 := fun x : Ext W1 => ext_bcell BR.out 0 rfl x
  have er1 := fun x : Ext W1 => ext_bcell BR.out 1 rfl x
  have er2 := fun x : Ext W1 => ext_bcell BR.out 2 rfl x
  have er3 := fun x : Ext W1 => ext_bcell BR.out 3 rfl x
  have ef0 := fun x : Ext W1 => ext_bfree BR.out 0 x
  have ef1 := fun x : Ext W1 => ext_bfree BR.out 1 x
  have ef2 := fun x : Ext W1 => ext_bfree BR.out 2 x
  have ef3 := fun x : Ext W1 => ext_bfree BR.out 3 x
  refine wp_region_ext_tail 14 (by kernel_rfl) (by kernel_rfl) ?_; simp only [List.take_succ_cons, List.take_zero, List.drop_succ_cons, List.drop_zero]
  repeat (go_big_quiet_step (first | (go_at_call 22; first | exact ext_same (Around_any _ _ _ hx.n.1 hx.n.2 (by decide) (by decide)) | exact ext_same (Around_any _ _ _ hx.m.1 hx.m.2 (by decide) (by decide)))))
  refine wpQuiet_nil ?_
  rintro _ ⟨y, rfl⟩
  go_wp2
  obtain ⟨HV, B3⟩ := fin4 (HK.out.trans y.k) (show w.heap.size ≤ w.heap.size + 1 by omega) (ext_blk BR.out y) (.int .i64 (around x.n 60)) (.int .i64 (around x.m 32768)) (.int .i64 (around x.m 90)) (.bool (around x.m 7 == 3))
  have r0 := blk_cell B3 0
  have r1 := blk_cell B3 1
  have r2 := blk_cell B3 2
  have r3 := blk_cell B3 3
  refine bodyPost_ret (v := .agg #[.int .i64 (around x.n 60), .int .i64 (around x.m 32768), .int .i64 (around x.m 90), .bool (around x.m 7 == 3)]) (by simp [results, Tryd.results45, go_sem, r0, r1, r2, r3]) rfl ⟨rfl, HV⟩
end Go.Proofs.YthoikljmokkchaaDoor
