/- Frame: the reference's Receive. -/
import Derived.Test.YthoikljmokkchaaDoorFrRA
import Derived.Test.YthoikljmokkchaaDoorFrRcv
import Derived.Test.YthoikljmokkchaaDoorFrManyX
import Derived.Deep.DrawnRows
import Derived.BigQuiet
namespace Go.Proofs.YthoikljmokkchaaDoor
open Go.RowKit
attribute [local go_sem ↓] Go.wp_at_zero Go.wp_at_succ
def RR (w : World) (K : Nat → Prop) (m : Rv × List (List Nat) × Int) (e : Ending) (w' : World) : Prop := ∃ a2 c2 a3 c3, e = .returned (.tuple #[.agg #[.int .i64 m.1.nx, .slice a2 m.1.fs.length c2, .bool m.1.lk, .int .u64 (m.1.l.k : Int), .int .i64 m.1.l.i], .slice a3 m.2.1.length c3, .int .i64 m.2.2]) ∧
  Frs (fun b => K b ∨ w.heap.size ≤ b) w' (.slice a2 m.1.fs.length c2) m.1.fs ∧ Bds (fun b => K b ∨ w.heap.size ≤ b) w' (.slice a3 m.2.1.length c3) m.2.1 ∧ Keeps (fun _ => False) w w'
theorem rr_mk {w w' : World} {K : Nat → Prop} {m : Rv × List (List Nat) × Int} {nx' i' er : Int} {fs' : List Fr} {lk' : Bool} {k' : Nat} {bd : List (List Nat)} {n' bn c2 c3 : Nat} {a2 a3 : Option Addr} (M : m = (⟨nx', fs', lk', ⟨k', i'⟩⟩, bd, er)) (hn : fs'.length = n') (hbn : bd.length = bn)
    (h1 : Frs (fun b => K b ∨ w.heap.size ≤ b) w' (.slice a2 n' c2) fs') (h2 : Bds (fun b => K b ∨ w.heap.size ≤ b) w' (.slice a3 bn c3) bd) (hk : Keeps (fun _ => False) w w') :
    RR w K m (.returned (.tuple #[.agg #[.int .i64 nx', .slice a2 n' c2, .bool lk', .int .u64 (k' : Int), .int .i64 i'], .slice a3 bn c3, .int .i64 er])) w' := by
  subst M hn hbn
  exact ⟨a2, c2, a3, c3, rfl, h1, h2, hk⟩
theorem bdp_litK {KD : Nat → Prop} {B : Nat} {W : World} {g m c : Nat} {a : Option Addr} {b : List Nat} (h : Blk W g #[.slice a m c] 22) (hB : B ≤ g) (hs : Sl KD W (.slice a m c) (u8s b)) (hg : ¬ KD g) : BdP KD B W (.slice (some ⟨g, 0, none⟩) 1 1) [b] := by
  refine ⟨[.slice a m c], ⟨⟨rfl, .inr ⟨g, 1, #[.slice a m c], rfl, Nat.zero_le _, h, Nat.le_refl _, by simp [maxLen], rfl, rfl⟩⟩, fun _ h => h⟩, fun b hb => ?_, BdL.one (hs.mono (fun b _ h => ⟨h, fun e => ?_⟩))⟩
  · injection hb with hb; simp at hb; omega
  · injection e with e; simp at e; subst e; exact hg h
set_option maxRecDepth 100000 in
set_option maxHeartbeats 12000000 in
theorem RReceive_any (nx : Int) (fs : List Fr) (fa : Option Addr) (fc : Nat) (lk : Bool) (l : Ld) (f : Fr) (K : Nat → Prop) (ba : Option Addr) (bc : Nat) (w : World) (hv : Frs K w (.slice fa fs.length fc) fs) (hs : Sl K w (.slice ba f.b.length bc) (u8s f.b)) (B : Int) (hr : (⟨nx, fs, lk, l⟩ : Rv).ok B) (hB : B ≤ 1000000000) (hf : f.ok) :
    Calls Tryd.prog 25 #[.agg #[.int .i64 nx, .slice fa fs.length fc, .bool lk, .int .u64 (l.k : Int), .int .i64 l.i], .agg #[.int .i64 f.q, .int .i64 f.k, .bool f.u, .slice ba f.b.length bc, .int .u64 (f.t : Int)]] w fun e w' => RR w K (recvM ⟨nx, fs, lk, l⟩ f) e w' := by
  have HV := hid (hv.mono (K' := fun b => K b ∧ b < w.heap.size) (fun b h h2 => ⟨h2, h⟩)); have HS := hid (hs.mono (K' := fun b => K b ∧ b < w.heap.size) (fun b h h2 => ⟨h2, h⟩))
  have hnx0 : 0 ≤ nx := hr.n0
  have hnx1 : nx ≤ 1000000000 := Int.le_trans hr.n1 hB
  have hi0 : 0 ≤ l.i := hr.i0
  have hi1 : l.i ≤ 1000000000 := Int.le_trans hr.i1 hB
  have hfl : fs.length ≤ 15 := hr.len
  have HLO : Hd l.ok := hid ⟨hr.k, hi0, by omega⟩
  have HFO := hid hf
  have HFX : Hd (∀ x ∈ fs, nx < x.q ∧ x.q ≤ nx + 15) := hid (fun x hx => ⟨(hr.f x hx).1, (hr.f x hx).2.1⟩)
  clear hv hs hr
  obtain ⟨k, i⟩ := l
  simp only [] at hi0 hi1
  obtain ⟨R, hR⟩ : ∃ R, recvM ⟨nx, fs, lk, ⟨k, i⟩⟩ f = R := ⟨_, rfl⟩
  have HR := hid hR
  rw [hR]
  clear hR
  obtain ⟨n, hnn⟩ : ∃ n, fs.length = n := ⟨_, rfl⟩
  have HN := hid hnn
  rw [hnn] at HV hfl ⊢
  clear hnn
  obtain ⟨m, hm⟩ : ∃ m, f.b.length = m := ⟨_, rfl⟩
  have HM := hid hm
  rw [hm] at HS ⊢
  obtain ⟨en, hen⟩ : ∃ en, covL f = en := ⟨_, rfl⟩
  have HEN := hid hen
  have HEL : Hd (en.length ≤ 140737488355000) := hid (by rw [← hen]; have h1 := covL_len hf; have := hf.n; omega)
  have HET : Hd (∀ c ∈ en, c < 256) := hid (by rw [← hen]; exact covL_lt hf)
  obtain ⟨⟨⟨k2, i2⟩, er⟩, hac⟩ : ∃ A, acceptL ⟨k, i⟩ f.k en f.t = A := ⟨_, rfl⟩
  have HAC := hid hac
  obtain ⟨d, hd⟩ : ∃ d, distM f.q nx = d := ⟨_, rfl⟩
  have HD := hid hd
  have hd256 : d < 256 := by rw [← hd]; exact distM_lt _ _
  have hq0 := hf.q0; have hq1 := hf.q1
  clear hm hen hac hd hf
  go_enter Tryd.func25, Tryd.ntmps25
  go_upto_region 1 with fail
  generalize hW : World.alloc (World.alloc (World.alloc w _) _) _ = W1
  have KS : Hd (Keeps (fun _ => False) w W1) := hid (by rw [← hW]; exact (Keeps.alloc (Keeps.alloc (Keeps.alloc (Keeps.refl (fun _ => False) w) _) _) _))
  have HV' : Hd (Frs (fun b => K b ∧ b < w.heap.size) W1 (.slice fa n fc) fs) := hid (HV.out.keep KS.out (fun _ _ _ h => h))
  have HS' : Hd (Sl (fun b => K b ∧ b < w.heap.size) W1 (.slice ba m bc) (u8s f.b)) := hid (HS.out.keep KS.out (fun _ _ _ h => h))
  have BS : Hd (Blk W1 w.heap.size #[(.int .i64 nx), (.slice fa n fc), (.bool lk), (.int .u64 (k : Int)), (.int .i64 i)] 35) := hid (by rw [← hW]; exact (blk_alloc (blk_alloc (blk_new _ _ _) _) _))
  have BF : Hd (Blk W1 (w.heap.size + 1) #[(.int .i64 f.q), (.int .i64 f.k), (.bool f.u), (.slice ba m bc), (.int .u64 (f.t : Int))] 25) := hid (by rw [← hW]; exact (blk_alloc (blk_new' _ _ _ _ (by simp)) _))
  have BR : Hd (Blk W1 (w.heap.size + 1 + 1) #[(.int .i64 0), (.slice none 0 0), (.bool false), (.int .u64 0), (.int .i64 0)] 35) := hid (by rw [← hW]; exact (blk_new' _ _ _ _ (by simp)))
  clear HV HS
  have HV := HV'
  clear HV'
  have HS := HS'
  clear HS'
  have HK : Hd (Keeps (fun _ => False) w W1) := hid KS.out
  have z_W1 : w.heap.size + 3 ≤ W1.heap.size := by rw [← hW]; simp
  clear hW KS
  generalize hb_BR : w.heap.size + 1 + 1 = b_BR at *
  generalize hb_BF : w.heap.size + 1 = b_BF at *
  have ltS := blk_lt BS.out
  have ltF := blk_lt BF.out
  have ltR := blk_lt BR.out
  by_cases h512 : 512 < m
  · have q0 : (512 : Int) < m := by omega
    have o_BF_3 : W1.cell? ⟨b_BF, 3, none⟩ = some ((.slice ba m bc)) := blk_cell BF.out 3
    go_upto_region 2 with fail
    clear o_BF_3
    have o_BR_0 : W1.cell? ⟨b_BR, 0, none⟩ = some ((.int .i64 0)) := blk_cell BR.out 0
    have o_BR_1 : W1.cell? ⟨b_BR, 1, none⟩ = some ((.slice none 0 0)) := blk_cell BR.out 1
    have o_BR_2 : W1.cell? ⟨b_BR, 2, none⟩ = some ((.bool false)) := blk_cell BR.out 2
    have o_BR_3 : W1.cell? ⟨b_BR, 3, none⟩ = some ((.int .u64 0)) := blk_cell BR.out 3
    have o_BR_4 : W1.cell? ⟨b_BR, 4, none⟩ = some ((.int .i64 0)) := blk_cell BR.out 4
    have f_BR_0 : W1.frozen? ⟨b_BR, 0, none⟩ = false := blk_free BR.out 0
    have f_BR_1 : W1.frozen? ⟨b_BR, 1, none⟩ = false := blk_free BR.out 1
    have f_BR_2 : W1.frozen? ⟨b_BR, 2, none⟩ = false := blk_free BR.out 2
    have f_BR_3 : W1.frozen? ⟨b_BR, 3, none⟩ = false := blk_free BR.out 3
    have f_BR_4 : W1.frozen? ⟨b_BR, 4, none⟩ = false := blk_free BR.out 4
    have o_BS_0 : W1.cell? ⟨w.heap.size, 0, none⟩ = some ((.int .i64 nx)) := blk_cell BS.out 0
    have o_BS_1 : W1.cell? ⟨w.heap.size, 1, none⟩ = some ((.slice fa n fc)) := blk_cell BS.out 1
    have o_BS_2 : W1.cell? ⟨w.heap.size, 2, none⟩ = some ((.bool lk)) := blk_cell BS.out 2
    have o_BS_3 : W1.cell? ⟨w.heap.size, 3, none⟩ = some ((.int .u64 (k : Int))) := blk_cell BS.out 3
    have o_BS_4 : W1.cell? ⟨w.heap.size, 4, none⟩ = some ((.int .i64 i)) := blk_cell BS.out 4
    go_wp2
    clear o_BR_0 o_BR_1 o_BR_2 o_BR_3 o_BR_4 f_BR_0 f_BR_1 f_BR_2 f_BR_3 f_BR_4 o_BS_0 o_BS_1 o_BS_2 o_BS_3 o_BS_4
    obtain ⟨HV2, B3⟩ := fin5 HK.out (show w.heap.size ≤ b_BR by omega) BR.out (.int .i64 nx) (.slice fa n fc) (.bool lk) (.int .u64 (k : Int)) (.int .i64 i)
    have r0 := blk_cell B3 0
    have r1 := blk_cell B3 1
    have r2 := blk_cell B3 2
    have r3 := blk_cell B3 3
    have r4 := blk_cell B3 4
    refine bodyPost_ret (v := .tuple #[.agg #[(.int .i64 nx), (.slice fa n fc), (.bool lk), (.int .u64 (k : Int)), (.int .i64 i)], .slice none 0 0, .int .i64 2]) (by simp [results, Tryd.results25, go_sem, r0, r1, r2, r3, r4]) rfl ?_
    have k9 := keep5 W1 b_BR (.int .i64 nx) (.slice fa n fc) (.bool lk) (.int .u64 (k : Int)) (.int .i64 i)
    exact rr_mk (HR.out.symm.trans (recvM_long (by rw [HM.out]; exact h512))) HN.out rfl ((HV.out.keep k9 (fun b _ h1 h2 => by have := h1.2; omega)).mono (fun b _ h => .inl h.1)) (Bds.nil _ _) HV2
  · have q0 : ¬ (512 : Int) < m := by omega
    have o_BF_3 : W1.cell? ⟨b_BF, 3, none⟩ = some ((.slice ba m bc)) := blk_cell BF.out 3
    go_upto_region 3 with fail
    clear o_BF_3
    have HSN : Hd (∀ X, Keeps (fun _ => False) W1 X → Calls Tryd.prog 15 #[.agg #[(.int .i64 f.q), (.int .i64 f.k), (.bool f.u), (.slice ba m bc), (.int .u64 (f.t : Int))]] X fun e w' => ∃ an cn, e = .returned (.slice an en.length cn) ∧ Sl (fun b => X.heap.size ≤ b) w' (.slice an en.length cn) (u8s en) ∧ Keeps (fun _ => False) X w') := hid (fun X hx => by have h := RSigned_any f (fun b => K b ∧ b < w.heap.size) ba bc X HFO.out (by rw [HM.out]; exact HS.out.keep hx (fun _ _ _ h => h)); rw [HEN.out, HM.out] at h; exact h.mono (fun e w' ⟨a, n, c, he, hn, ho, hk⟩ => ⟨a, c, by rw [he, hn, u8s_length], (by have h := row_sl ho.row (by rw [hn]); rw [hn, u8s_length] at h; exact h), hk⟩))
    have HAP : Hd (∀ X v K, Sl K X v (u8s en) → Calls Tryd.prog 71 #[.agg #[.int .u64 (k : Int), .int .i64 i], .int .i64 f.k, v, .int .u64 (f.t : Int)] X fun e w' => e = .returned (.tuple #[.agg #[.int .u64 (k2 : Int), .int .i64 i2], .int .i64 er]) ∧ Keeps (fun _ => False) X w') := hid (fun X v K hv => by have h := RAccept_any ⟨k, i⟩ f.k f.t K v en X HLO.out HFO.out.k0 HFO.out.k1 hv HET.out (Nat.le_trans HEL.out (by decide)); unfold AccPost at h; rw [HAC.out] at h; exact h)
    go_cut [8, 7] from 17 to 28 (fun u8 u7 wx => u8 = .int .i64 er ∧ ∃ bK, u7 = .pointer (some ⟨bK, 0, none⟩) ∧ W1.heap.size ≤ bK ∧ Hd (Blk wx bK #[.int .u64 (k2 : Int), .int .i64 i2] 33) ∧ Hd (Keeps (fun _ => False) W1 wx))
    case first =>
      refine wp_many (C := mkMC 5 [5, 8, 9, 10, 11, 13, 14] [(12, 33, #[(.int .u64 0), (.int .i64 0)])] [(13, 12, 10)] [(fun _ => .pointer (some ⟨w.heap.size, 3, none⟩)), (fun _ => .agg #[.int .u64 (k : Int), .int .i64 i]), (fun _ => .pointer (some ⟨b_BF, 1, none⟩)), (fun _ => .int .i64 f.k), (fun _ => .agg #[(.int .i64 f.q), (.int .i64 f.k), (.bool f.u), (.slice ba m bc), (.int .u64 (f.t : Int))]), (fun r => r), (fun _ => .pointer (some ⟨b_BF, 4, none⟩)), (fun _ => .int .u64 (f.t : Int)), (fun r => .tuple #[.agg #[.int .u64 (k2 : Int), .int .i64 i2], .int .i64 er]), (fun r => .tuple #[.agg #[.int .u64 (k2 : Int), .int .i64 i2], .int .i64 er]), (fun r => .agg #[.int .u64 (k2 : Int), .int .i64 i2]), (fun r => .int .i64 er), (fun _ => undef), (fun _ => undef), (fun r => .int .i64 er)] (fun _ _ => #[.int .u64 (k2 : Int), .int .i64 i2]) (slR en)) (by kernel_rfl) ?H ?HV 5 rfl ?HC ?HE
      case H =>
        refine { back := by kernel_rfl, dst := uniqB_spec (by kernel_rfl), szd := underB_spec (by kernel_rfl), val := valB_spec3 (f := mkV [(12, 33, #[(.int .u64 0), (.int .i64 0)])] [(13, 12, 10)]) (by kernel_rfl), alo := ?_, sto := ?_, stc := ?_, all := allB3_spec (f := mkV [(12, 33, #[(.int .u64 0), (.int .i64 0)])] [(13, 12, 10)]) (g := mkA [(12, 33, #[(.int .u64 0), (.int .i64 0)])]) (h := mkS [(13, 12, 10)]) (by kernel_rfl), nva := ?_, nvs := ?_, one := ?_, civ := rfl, nd := ?_, cd := rfl, dd := ?_, sem := klSem _ _ _ _ _ _ _ _ _ rfl }
        · intro j o h0 ha
          have h1 : 12 = j := by simpa [mkMC] using ha
          subst h1
          all_goals
            have h2 := h0
            simp only [List.getElem?_cons_succ, List.getElem?_cons_zero, Option.some.injEq] at h2
            subst h2
            exact ⟨⟨_, rfl⟩, rfl, rfl⟩
        · intro s o h0 ha
          have h1 : 13 = s := by simpa [mkMC] using ha
          subst h1
          all_goals
            have h2 := h0
            simp only [List.getElem?_cons_succ, List.getElem?_cons_zero, Option.some.injEq] at h2
            subst h2
            exact ⟨_, _, _, _, rfl, rfl, rfl, rfl, rfl, rfl, rfl, waitsB_spec (by kernel_rfl), waitsB_spec (by kernel_rfl)⟩
        · intro s ha
          have h1 : 13 = s := by simpa [mkMC] using ha
          subst h1
          all_goals exact ⟨rfl, rfl, rfl, rfl⟩
        · intro s ha
          have h1 : 12 = s := by simpa [mkMC] using ha
          subst h1
          all_goals exact ⟨rfl, rfl, rfl⟩
        · intro s ha
          have h1 : 13 = s := by simpa [mkMC] using ha
          subst h1
          all_goals exact ⟨rfl, rfl⟩
        · intro s t ha hb hst
          have h1 : 13 = s := by simpa [mkMC] using ha
          subst h1
          all_goals (have h2 : 13 = t := by simpa [mkMC] using hb)
          exact h2
        · intro i r r' hv hD
          match i, hD with
          | 0, _ => rfl
          | 1, _ => rfl
          | 2, _ => rfl
          | 3, _ => rfl
          | 4, _ => rfl
          | 5, h => exact absurd h (by simp [mkMC])
          | 6, _ => rfl
          | 7, _ => rfl
          | 8, h => exact absurd h (by simp [mkMC])
          | 9, h => exact absurd h (by simp [mkMC])
          | 10, h => exact absurd h (by simp [mkMC])
          | 11, h => exact absurd h (by simp [mkMC])
          | 12, _ => rfl
          | 13, h => exact absurd h (by simp [mkMC])
          | 14, h => exact absurd h (by simp [mkMC])
          | n + 15, _ => rfl
        · intro i o h0 hD hne
          match i, h0, hD, hne with
          | 0, _, hD, _ => exact absurd hD (by simp [mkMC])
          | 1, _, hD, _ => exact absurd hD (by simp [mkMC])
          | 2, _, hD, _ => exact absurd hD (by simp [mkMC])
          | 3, _, hD, _ => exact absurd hD (by simp [mkMC])
          | 4, _, hD, _ => exact absurd hD (by simp [mkMC])
          | 5, _, _, hne => exact absurd rfl hne
          | 6, _, hD, _ => exact absurd hD (by simp [mkMC])
          | 7, _, hD, _ => exact absurd hD (by simp [mkMC])
          | 8, h0, _, _ =>
            simp only [List.getElem?_cons_succ, List.getElem?_cons_zero, Option.some.injEq] at h0
            subst h0
            exact ⟨5, waitsB_spec (by kernel_rfl), rfl⟩
          | 9, h0, _, _ =>
            simp only [List.getElem?_cons_succ, List.getElem?_cons_zero, Option.some.injEq] at h0
            subst h0
            exact ⟨8, waitsB_spec (by kernel_rfl), rfl⟩
          | 10, h0, _, _ =>
            simp only [List.getElem?_cons_succ, List.getElem?_cons_zero, Option.some.injEq] at h0
            subst h0
            exact ⟨9, waitsB_spec (by kernel_rfl), rfl⟩
          | 11, h0, _, _ =>
            simp only [List.getElem?_cons_succ, List.getElem?_cons_zero, Option.some.injEq] at h0
            subst h0
            exact ⟨9, waitsB_spec (by kernel_rfl), rfl⟩
          | 12, _, hD, _ => exact absurd hD (by simp [mkMC])
          | 13, h0, _, _ =>
            simp only [List.getElem?_cons_succ, List.getElem?_cons_zero, Option.some.injEq] at h0
            subst h0
            exact ⟨10, waitsB_spec (by kernel_rfl), rfl⟩
          | 14, h0, _, _ =>
            simp only [List.getElem?_cons_succ, List.getElem?_cons_zero, Option.some.injEq] at h0
            subst h0
            exact ⟨11, waitsB_spec (by kernel_rfl), rfl⟩
          | n + 15, h0, _, _ => simp at h0
      case HV =>
        intro iq o hv hne hi aq w' r hk hd hR
        match iq, hv, hne, hi, hR with
        | 0, _, _, hi, hR =>
          have hi1 := hi
          simp only [List.getElem?_cons_succ, List.getElem?_cons_zero, Option.some.injEq] at hi1
          subst hi1
          have e0 : aq.eval (.tmp 2) = .pointer (some ⟨w.heap.size, 0, none⟩) := (hd.out (by kernel_rfl)).trans rfl
          exact wpOp_ranL hi rfl (v := .pointer (some ⟨w.heap.size, 3, none⟩)) (w' := w') (by simp only [execOp, e0]; go_simp) ⟨rfl, Keeps.refl _ _⟩
        | 1, _, _, hi, hR =>
          have hi1 := hi
          simp only [List.getElem?_cons_succ, List.getElem?_cons_zero, Option.some.injEq] at hi1
          subst hi1
          have e0 : aq.eval (.tmp 18) = .pointer (some ⟨w.heap.size, 3, none⟩) := hd.val (j := 0) (by kernel_rfl) rfl rfl rfl
          have c0 := keep_cell hk (fun h => h) (blk_cell BS.out 3)
          have c1 := keep_cell hk (fun h => h) (blk_cell BS.out 4)
          exact wpOp_ranL hi rfl (v := .agg #[.int .u64 (k : Int), .int .i64 i]) (w' := w') (by simp only [execOp, e0]; go_simp) ⟨rfl, Keeps.refl _ _⟩
        | 2, _, _, hi, hR =>
          have hi1 := hi
          simp only [List.getElem?_cons_succ, List.getElem?_cons_zero, Option.some.injEq] at hi1
          subst hi1
          have e0 : aq.eval (.tmp 3) = .pointer (some ⟨b_BF, 0, none⟩) := (hd.out (by kernel_rfl)).trans rfl
          exact wpOp_ranL hi rfl (v := .pointer (some ⟨b_BF, 1, none⟩)) (w' := w') (by simp only [execOp, e0]; go_simp) ⟨rfl, Keeps.refl _ _⟩
        | 3, _, _, hi, hR =>
          have hi1 := hi
          simp only [List.getElem?_cons_succ, List.getElem?_cons_zero, Option.some.injEq] at hi1
          subst hi1
          have e0 : aq.eval (.tmp 20) = .pointer (some ⟨b_BF, 1, none⟩) := hd.val (j := 2) (by kernel_rfl) rfl rfl rfl
          have c0 := keep_cell hk (fun h => h) (blk_cell BF.out 1)
          exact wpOp_ranL hi rfl (v := .int .i64 f.k) (w' := w') (by simp only [execOp, e0]; go_simp) ⟨rfl, Keeps.refl _ _⟩
        | 4, _, _, hi, hR =>
          have hi1 := hi
          simp only [List.getElem?_cons_succ, List.getElem?_cons_zero, Option.some.injEq] at hi1
          subst hi1
          have e0 : aq.eval (.tmp 3) = .pointer (some ⟨b_BF, 0, none⟩) := (hd.out (by kernel_rfl)).trans rfl
          have c0 := keep_cell hk (fun h => h) (blk_cell BF.out 0)
          have c1 := keep_cell hk (fun h => h) (blk_cell BF.out 1)
          have c2 := keep_cell hk (fun h => h) (blk_cell BF.out 2)
          have c3 := keep_cell hk (fun h => h) (blk_cell BF.out 3)
          have c4 := keep_cell hk (fun h => h) (blk_cell BF.out 4)
          exact wpOp_ranL hi rfl (v := .agg #[(.int .i64 f.q), (.int .i64 f.k), (.bool f.u), (.slice ba m bc), (.int .u64 (f.t : Int))]) (w' := w') (by simp only [execOp, e0]; go_simp) ⟨rfl, Keeps.refl _ _⟩
        | 5, _, hne, _, _ => exact absurd rfl hne
        | 6, _, _, hi, hR =>
          have hi1 := hi
          simp only [List.getElem?_cons_succ, List.getElem?_cons_zero, Option.some.injEq] at hi1
          subst hi1
          have e0 : aq.eval (.tmp 3) = .pointer (some ⟨b_BF, 0, none⟩) := (hd.out (by kernel_rfl)).trans rfl
          exact wpOp_ranL hi rfl (v := .pointer (some ⟨b_BF, 4, none⟩)) (w' := w') (by simp only [execOp, e0]; go_simp) ⟨rfl, Keeps.refl _ _⟩
        | 7, _, _, hi, hR =>
          have hi1 := hi
          simp only [List.getElem?_cons_succ, List.getElem?_cons_zero, Option.some.injEq] at hi1
          subst hi1
          have e0 : aq.eval (.tmp 24) = .pointer (some ⟨b_BF, 4, none⟩) := hd.val (j := 6) (by kernel_rfl) rfl rfl rfl
          have c0 := keep_cell hk (fun h => h) (blk_cell BF.out 4)
          exact wpOp_ranL hi rfl (v := .int .u64 (f.t : Int)) (w' := w') (by simp only [execOp, e0]; go_simp) ⟨rfl, Keeps.refl _ _⟩
        | 8, _, _, hi, hR =>
          have hi1 := hi
          simp only [List.getElem?_cons_succ, List.getElem?_cons_zero, Option.some.injEq] at hi1
          subst hi1
          obtain ⟨K, an, cn, rfl, hsl⟩ := hR rfl
          have e0 : aq.eval (.tmp 19) = .agg #[.int .u64 (k : Int), .int .i64 i] := hd.val (j := 1) (by kernel_rfl) rfl rfl rfl
          have e1 : aq.eval (.tmp 21) = .int .i64 f.k := hd.val (j := 3) (by kernel_rfl) rfl rfl rfl
          have e2 : aq.eval (.tmp 23) = .slice an en.length cn := hd.val (j := 5) (by kernel_rfl) rfl rfl rfl
          have e3 : aq.eval (.tmp 25) = .int .u64 (f.t : Int) := hd.val (j := 7) (by kernel_rfl) rfl rfl rfl
          exact wpOp_callL hi rfl (f := 71) (args := #[.agg #[.int .u64 (k : Int), .int .i64 i], .int .i64 f.k, .slice an en.length cn, .int .u64 (f.t : Int)]) (by simp only [execOp_call_go, List.map_toArray, List.map_cons, List.map_nil, e0, e1, e2, e3]; rfl) ((HAP.out _ _ _ hsl).mono (fun e w2 ⟨he, hk2⟩ => ⟨_, he, rfl, hk2⟩))
        | 9, _, _, hi, hR =>
          have hi1 := hi
          simp only [List.getElem?_cons_succ, List.getElem?_cons_zero, Option.some.injEq] at hi1
          subst hi1
          obtain ⟨K, an, cn, rfl, hsl⟩ := hR rfl
          have e0 : aq.eval (.tmp 26) = .tuple #[.agg #[.int .u64 (k2 : Int), .int .i64 i2], .int .i64 er] := hd.val (j := 8) (by kernel_rfl) rfl rfl rfl
          exact wpOp_ranL hi rfl (v := .tuple #[.agg #[.int .u64 (k2 : Int), .int .i64 i2], .int .i64 er]) (w' := w') (by simp only [execOp, e0]; rfl) ⟨rfl, Keeps.refl _ _⟩
        | 10, _, _, hi, hR =>
          have hi1 := hi
          simp only [List.getElem?_cons_succ, List.getElem?_cons_zero, Option.some.injEq] at hi1
          subst hi1
          obtain ⟨K, an, cn, rfl, hsl⟩ := hR rfl
          have e0 : aq.eval (.tmp 17) = .tuple #[.agg #[.int .u64 (k2 : Int), .int .i64 i2], .int .i64 er] := hd.val (j := 9) (by kernel_rfl) rfl rfl rfl
          exact wpOp_ranL hi rfl (v := .agg #[.int .u64 (k2 : Int), .int .i64 i2]) (w' := w') (by simp only [execOp, e0]; rfl) ⟨rfl, Keeps.refl _ _⟩
        | 11, _, _, hi, hR =>
          have hi1 := hi
          simp only [List.getElem?_cons_succ, List.getElem?_cons_zero, Option.some.injEq] at hi1
          subst hi1
          obtain ⟨K, an, cn, rfl, hsl⟩ := hR rfl
          have e0 : aq.eval (.tmp 17) = .tuple #[.agg #[.int .u64 (k2 : Int), .int .i64 i2], .int .i64 er] := hd.val (j := 9) (by kernel_rfl) rfl rfl rfl
          exact wpOp_ranL hi rfl (v := .int .i64 er) (w' := w') (by simp only [execOp, e0]; rfl) ⟨rfl, Keeps.refl _ _⟩
        | 12, hv, _, _, _ => cases hv
        | 13, hv, _, _, _ => cases hv
        | 14, _, _, hi, hR =>
          have hi1 := hi
          simp only [List.getElem?_cons_succ, List.getElem?_cons_zero, Option.some.injEq] at hi1
          subst hi1
          obtain ⟨K, an, cn, rfl, hsl⟩ := hR rfl
          have e0 : aq.eval (.tmp 28) = .int .i64 er := hd.val (j := 11) (by kernel_rfl) rfl rfl rfl
          exact wpOp_ranL hi rfl (v := .int .i64 er) (w' := w') (by simp only [execOp, e0]; rfl) ⟨rfl, Keeps.refl _ _⟩
        | n + 15, _, _, hi, _ => simp at hi
      case HC =>
        intro o hi aq w' r hk hd
        have hi1 := hi
        simp only [List.getElem?_cons_succ, List.getElem?_cons_zero, Option.some.injEq] at hi1
        subst hi1
        have e0 : aq.eval (.tmp 22) = .agg #[(.int .i64 f.q), (.int .i64 f.k), (.bool f.u), (.slice ba m bc), (.int .u64 (f.t : Int))] := hd.val (j := 4) (by kernel_rfl) rfl rfl rfl
        exact wpOp_callL hi rfl (f := 15) (args := #[.agg #[(.int .i64 f.q), (.int .i64 f.k), (.bool f.u), (.slice ba m bc), (.int .u64 (f.t : Int))]]) (by simp only [execOp_call_go, List.map_toArray, List.map_cons, List.map_nil, e0]; rfl) ((HSN.out _ hk).mono (fun e w2 ⟨an, cn, he, hsl, hk2⟩ => ⟨_, he, _, rfl, hk2, an, cn, rfl, hsl.mono (fun b _ h => .inr h)⟩))
      case HE =>
        intro L aq w' gg r hL hT
        have em := act_mix (bs := [true, true, true, true, true, true, true, false, false, true, true, true, true, true, true, true, true, false, false, false, false, false, false, false, false, false, false, false, false, true, true, true, true, true, true, true, true, true, true, true, true, true, true, true, true, true, true, true, true, true, true, true, true, true, true, true, true, true, true, true, true, true, true, true, true, true, true, true, true, true, true, true, true, true, true, true, true, true, true, true, true, true, true, true, true, true, true, true, true, true, true, true, true, true, true, true, true, true, true, true, true, true, true, true, true, true, true, true, true, true, true, true, true, true, true, true, true, true, true, true, true, true, true, true, true, true, true]) hT.sz hT.df hT.fr rfl (by kernel_rfl)
        have hR := hT.c (hL 5 (by decide))
        obtain ⟨an, cn, rfl, hsl⟩ := hR
        have kW := hT.kp
        obtain ⟨eA12, zA12, cs12, -, bA12, sA12⟩ := hT.al 12 rfl (hL 12 (by decide)) _ 7 rfl rfl
        have sA12 := sA12 13 rfl (hL 13 (by decide)) rfl
        subst sA12
        change aq.tmps.getD 7 undef = _ at eA12
        generalize gg 12 = g12 at *
        have k8 : aq.tmps.getD 8 undef = .int .i64 er := hT.v 14 _ 8 rfl (hL 14 (by decide)) rfl rfl
        clear hT hL
        simp only [mix, eA12, k8] at em
        clear eA12 k8
        generalize aq.tmps.getD 18 undef = q18 at em
        generalize aq.tmps.getD 19 undef = q19 at em
        generalize aq.tmps.getD 20 undef = q20 at em
        generalize aq.tmps.getD 21 undef = q21 at em
        generalize aq.tmps.getD 22 undef = q22 at em
        generalize aq.tmps.getD 23 undef = q23 at em
        generalize aq.tmps.getD 24 undef = q24 at em
        generalize aq.tmps.getD 25 undef = q25 at em
        generalize aq.tmps.getD 26 undef = q26 at em
        generalize aq.tmps.getD 17 undef = q17 at em
        generalize aq.tmps.getD 27 undef = q27 at em
        generalize aq.tmps.getD 28 undef = q28 at em
        subst em
        simp only [Exit.then]
        go_wp2_with fail
        go_meet
        exact ⟨rfl, g12, rfl, zA12, hid bA12, hid kW⟩
    case rest =>
    obtain ⟨rfl, b_K, rfl, hb_K, B_K, hk⟩ := hcut
    replace hk := hk.out
    generalize wc = W2 at *
    have HV' : Hd (Frs (fun b => K b ∧ b < w.heap.size) W2 (.slice fa n fc) fs) := hid (HV.out.keep hk (fun _ _ _ h => h))
    have HS' : Hd (Sl (fun b => K b ∧ b < w.heap.size) W2 (.slice ba m bc) (u8s f.b)) := hid (HS.out.keep hk (fun _ _ _ h => h))
    have BS' : Hd (Blk W2 w.heap.size #[(.int .i64 nx), (.slice fa n fc), (.bool lk), (.int .u64 (k : Int)), (.int .i64 i)] 35) := hid (blk_keep BS.out hk (fun h => h))
    have BF' : Hd (Blk W2 b_BF #[(.int .i64 f.q), (.int .i64 f.k), (.bool f.u), (.slice ba m bc), (.int .u64 (f.t : Int))] 25) := hid (blk_keep BF.out hk (fun h => h))
    have BR' : Hd (Blk W2 b_BR #[(.int .i64 0), (.slice none 0 0), (.bool false), (.int .u64 0), (.int .i64 0)] 35) := hid (blk_keep BR.out hk (fun h => h))
    clear HV HS BS BF BR
    have HV := HV'
    clear HV'
    have HS := HS'
    clear HS'
    have BS := BS'
    clear BS'
    have BF := BF'
    clear BF'
    have BR := BR'
    clear BR'
    have HK' : Hd (Keeps (fun _ => False) w W2) := hid (HK.out.trans hk)
    clear HK
    have HK := HK'
    clear HK'
    have z_W2 := hk.size
    clear hk
    clear HSN HAP HEL HET
    have ltK := blk_lt B_K.out
    by_cases her : er = 0
    · subst her
      have HGO : Hd (recv2 ⟨nx, fs, lk, ⟨k, i⟩⟩ ⟨k2, i2⟩ f = R) := hid (by rw [← HR.out]; exact (recvM_go (by rw [HM.out]; exact h512) (by show acceptL ⟨k, i⟩ f.k (covL f) f.t = _; rw [HEN.out]; exact HAC.out)).symm)
      clear HR HAC HEN HLO
      have HR := HGO
      clear HGO
      have o_B_K_0 : W2.cell? ⟨b_K, 0, none⟩ = some ((.int .u64 (k2 : Int))) := blk_cell B_K.out 0
      have o_B_K_1 : W2.cell? ⟨b_K, 1, none⟩ = some ((.int .i64 i2)) := blk_cell B_K.out 1
      have o_BS_3 : W2.cell? ⟨w.heap.size, 3, none⟩ = some ((.int .u64 (k : Int))) := blk_cell BS.out 3
      have o_BS_4 : W2.cell? ⟨w.heap.size, 4, none⟩ = some ((.int .i64 i)) := blk_cell BS.out 4
      have f_BS_3 : W2.frozen? ⟨w.heap.size, 3, none⟩ = false := blk_free BS.out 3
      have f_BS_4 : W2.frozen? ⟨w.heap.size, 4, none⟩ = false := blk_free BS.out 4
      go_upto_region 7 with fail
      clear o_B_K_0 o_B_K_1 o_BS_3 o_BS_4 f_BS_3 f_BS_4
      generalize hW : World.setCell (World.setCell W2 _ _) _ _ = W3
      have KS : Hd (Keeps (fun b => b = w.heap.size) W2 W3) := hid (by rw [← hW]; exact (Keeps.setCell (S := fun b => b = w.heap.size) (p := ⟨w.heap.size, 4, none⟩) (Keeps.setCell (S := fun b => b = w.heap.size) (p := ⟨w.heap.size, 3, none⟩) (Keeps.refl (fun b => b = w.heap.size) W2) (.inl rfl) _) (.inl rfl) _))
      have HV' : Hd (Frs (fun b => K b ∧ b < w.heap.size) W3 (.slice fa n fc) fs) := hid (HV.out.keep KS.out (fun b _ h1 h2 => by have := h1.2; omega))
      have HS' : Hd (Sl (fun b => K b ∧ b < w.heap.size) W3 (.slice ba m bc) (u8s f.b)) := hid (HS.out.keep KS.out (fun b _ h1 h2 => by have := h1.2; omega))
      have BS' : Hd (Blk W3 w.heap.size #[(.int .i64 nx), (.slice fa n fc), (.bool lk), (.int .u64 (k2 : Int)), (.int .i64 i2)] 35) := hid (by rw [← hW]; exact (blk_set (blk_set BS.out 3 _) 4 _))
      have BF' : Hd (Blk W3 b_BF #[(.int .i64 f.q), (.int .i64 f.k), (.bool f.u), (.slice ba m bc), (.int .u64 (f.t : Int))] 25) := hid (by rw [← hW]; exact (blk_other (blk_other BF.out (by omega) _ _) (by omega) _ _))
      have BR' : Hd (Blk W3 b_BR #[(.int .i64 0), (.slice none 0 0), (.bool false), (.int .u64 0), (.int .i64 0)] 35) := hid (by rw [← hW]; exact (blk_other (blk_other BR.out (by omega) _ _) (by omega) _ _))
      have B_K' : Hd (Blk W3 b_K #[(.int .u64 (k2 : Int)), (.int .i64 i2)] 33) := hid (by rw [← hW]; exact (blk_other (blk_other B_K.out (by omega) _ _) (by omega) _ _))
      clear HV HS BS BF BR B_K
      have HV := HV'
      clear HV'
      have HS := HS'
      clear HS'
      have BS := BS'
      clear BS'
      have BF := BF'
      clear BF'
      have BR := BR'
      clear BR'
      have B_K := B_K'
      clear B_K'
      have HK' : Hd (Keeps (fun _ => False) w W3) := hid (HK.out.trans' KS.out (fun i hi h => by omega))
      clear HK
      have HK := HK'
      clear HK'
      have z_W3 : W2.heap.size + 0 ≤ W3.heap.size := by rw [← hW]; simp
      clear hW KS
      have o_BF_0 : W3.cell? ⟨b_BF, 0, none⟩ = some ((.int .i64 f.q)) := blk_cell BF.out 0
      have o_BS_0 : W3.cell? ⟨w.heap.size, 0, none⟩ = some ((.int .i64 nx)) := blk_cell BS.out 0
      have hm1 : IntKind.i64.wrap ((modN f.q : Int) - (modN nx : Int)) = (modN f.q : Int) - (modN nx : Int) := by have := modN_lt f.q; have := modN_lt nx; exact IntWalk.i64_in _ (by omega)
      have hmb := modN_lt f.q; have hmc := modN_lt nx
      have HDD : Hd (modN ((modN f.q : Int) - (modN nx : Int)) = d) := hid HD.out
      go_cut [9] from 35 to 42 (fun u9 wx => u9 = .int .i64 (d : Int) ∧ Hd (Keeps (fun _ => False) W3 wx))
      case first =>
        have ea := fun x : Ext W3 => ext_bcell BF.out 0 rfl x
        have eb := fun x : Ext W3 => ext_bcell BS.out 0 rfl x
        refine wp_region_ext (by kernel_rfl) (by kernel_rfl) ?_
        repeat (go_big_quiet_step (first | (go_at_call 55; exact ext_same (Mod_any _ _ (by first | assumption | omega) (by first | assumption | omega)))))
        refine wpQuiet_nil ?_
        rintro _ ⟨y, rfl⟩
        go_wp2_with fail
        go_meet
        exact ⟨by rw [HDD.out], hid y.k⟩
      case rest =>
      clear o_BF_0 o_BS_0
      obtain ⟨rfl, hk⟩ := hcut
      replace hk := hk.out
      generalize wc = W4 at *
      clear hm1 hmb hmc HDD
      have HV' : Hd (Frs (fun b => K b ∧ b < w.heap.size) W4 (.slice fa n fc) fs) := hid (HV.out.keep hk (fun _ _ _ h => h))
      have HS' : Hd (Sl (fun b => K b ∧ b < w.heap.size) W4 (.slice ba m bc) (u8s f.b)) := hid (HS.out.keep hk (fun _ _ _ h => h))
      have BS' : Hd (Blk W4 w.heap.size #[(.int .i64 nx), (.slice fa n fc), (.bool lk), (.int .u64 (k2 : Int)), (.int .i64 i2)] 35) := hid (blk_keep BS.out hk (fun h => h))
      have BF' : Hd (Blk W4 b_BF #[(.int .i64 f.q), (.int .i64 f.k), (.bool f.u), (.slice ba m bc), (.int .u64 (f.t : Int))] 25) := hid (blk_keep BF.out hk (fun h => h))
      have BR' : Hd (Blk W4 b_BR #[(.int .i64 0), (.slice none 0 0), (.bool false), (.int .u64 0), (.int .i64 0)] 35) := hid (blk_keep BR.out hk (fun h => h))
      have B_K' : Hd (Blk W4 b_K #[(.int .u64 (k2 : Int)), (.int .i64 i2)] 33) := hid (blk_keep B_K.out hk (fun h => h))
      clear HV HS BS BF BR B_K
      have HV := HV'
      clear HV'
      have HS := HS'
      clear HS'
      have BS := BS'
      clear BS'
      have BF := BF'
      clear BF'
      have BR := BR'
      clear BR'
      have B_K := B_K'
      clear B_K'
      have HK' : Hd (Keeps (fun _ => False) w W4) := hid (HK.out.trans hk)
      clear HK
      have HK := HK'
      clear HK'
      have z_W4 := hk.size
      clear hk
      cases hu : f.u
      · have HU := hid hu
        clear hu
        rw [HU.out] at BF
        cases lk
        · have o_BF_2 : W4.cell? ⟨b_BF, 2, none⟩ = some ((.bool false)) := blk_cell BF.out 2
          have o_BS_2 : W4.cell? ⟨w.heap.size, 2, none⟩ = some ((.bool false)) := blk_cell BS.out 2
          go_upto_region 14 with fail
          clear o_BF_2 o_BS_2
          by_cases hd1 : 128 ≤ d
          · have d1 : (128 : Int) ≤ d := by omega
            have d2 : ¬ (d : Int) < 128 := by omega
            have d3 : (16 : Int) ≤ d := by omega
            go_upto_region 18 with fail
            have o_BR_0 : W4.cell? ⟨b_BR, 0, none⟩ = some ((.int .i64 0)) := blk_cell BR.out 0
            have o_BR_1 : W4.cell? ⟨b_BR, 1, none⟩ = some ((.slice none 0 0)) := blk_cell BR.out 1
            have o_BR_2 : W4.cell? ⟨b_BR, 2, none⟩ = some ((.bool false)) := blk_cell BR.out 2
            have o_BR_3 : W4.cell? ⟨b_BR, 3, none⟩ = some ((.int .u64 0)) := blk_cell BR.out 3
            have o_BR_4 : W4.cell? ⟨b_BR, 4, none⟩ = some ((.int .i64 0)) := blk_cell BR.out 4
            have f_BR_0 : W4.frozen? ⟨b_BR, 0, none⟩ = false := blk_free BR.out 0
            have f_BR_1 : W4.frozen? ⟨b_BR, 1, none⟩ = false := blk_free BR.out 1
            have f_BR_2 : W4.frozen? ⟨b_BR, 2, none⟩ = false := blk_free BR.out 2
            have f_BR_3 : W4.frozen? ⟨b_BR, 3, none⟩ = false := blk_free BR.out 3
            have f_BR_4 : W4.frozen? ⟨b_BR, 4, none⟩ = false := blk_free BR.out 4
            have o_BS_0 : W4.cell? ⟨w.heap.size, 0, none⟩ = some ((.int .i64 nx)) := blk_cell BS.out 0
            have o_BS_1 : W4.cell? ⟨w.heap.size, 1, none⟩ = some ((.slice fa n fc)) := blk_cell BS.out 1
            have o_BS_2 : W4.cell? ⟨w.heap.size, 2, none⟩ = some ((.bool false)) := blk_cell BS.out 2
            have o_BS_3 : W4.cell? ⟨w.heap.size, 3, none⟩ = some ((.int .u64 (k2 : Int))) := blk_cell BS.out 3
            have o_BS_4 : W4.cell? ⟨w.heap.size, 4, none⟩ = some ((.int .i64 i2)) := blk_cell BS.out 4
            go_wp2
            clear o_BR_0 o_BR_1 o_BR_2 o_BR_3 o_BR_4 f_BR_0 f_BR_1 f_BR_2 f_BR_3 f_BR_4 o_BS_0 o_BS_1 o_BS_2 o_BS_3 o_BS_4
            obtain ⟨HV2, B3⟩ := fin5 HK.out (show w.heap.size ≤ b_BR by omega) BR.out (.int .i64 nx) (.slice fa n fc) (.bool false) (.int .u64 (k2 : Int)) (.int .i64 i2)
            have r0 := blk_cell B3 0
            have r1 := blk_cell B3 1
            have r2 := blk_cell B3 2
            have r3 := blk_cell B3 3
            have r4 := blk_cell B3 4
            refine bodyPost_ret (v := .tuple #[.agg #[(.int .i64 nx), (.slice fa n fc), (.bool false), (.int .u64 (k2 : Int)), (.int .i64 i2)], .slice none 0 0, .int .i64 0]) (by simp [results, Tryd.results25, go_sem, r0, r1, r2, r3, r4]) rfl ?_
            have k9 := keep5 W4 b_BR (.int .i64 nx) (.slice fa n fc) (.bool false) (.int .u64 (k2 : Int)) (.int .i64 i2)
            exact rr_mk (HR.out.symm.trans (recv2_old HU.out rfl (by show 128 ≤ distM f.q nx; rw [HD.out]; exact hd1))) HN.out rfl ((HV.out.keep k9 (fun b _ h1 h2 => by have := h1.2; omega)).mono (fun b _ h => .inl h.1)) (Bds.nil _ _) HV2
          · have d1 : ¬ (128 : Int) ≤ d := by omega
            have d2 : (d : Int) < 128 := by omega
            by_cases hd2 : 16 ≤ d
            · have d3 : (16 : Int) ≤ d := by omega
              have o_BS_2 : W4.cell? ⟨w.heap.size, 2, none⟩ = some ((.bool false)) := blk_cell BS.out 2
              have f_BS_2 : W4.frozen? ⟨w.heap.size, 2, none⟩ = false := blk_free BS.out 2
              go_upto_region 16 with fail
              clear o_BS_2 f_BS_2
              generalize hW : World.setCell W4 _ _ = W5
              have KS : Hd (Keeps (fun b => b = w.heap.size) W4 W5) := hid (by rw [← hW]; exact (Keeps.setCell (S := fun b => b = w.heap.size) (p := ⟨w.heap.size, 2, none⟩) (Keeps.refl (fun b => b = w.heap.size) W4) (.inl rfl) _))
              have HV' : Hd (Frs (fun b => K b ∧ b < w.heap.size) W5 (.slice fa n fc) fs) := hid (HV.out.keep KS.out (fun b _ h1 h2 => by have := h1.2; omega))
              have HS' : Hd (Sl (fun b => K b ∧ b < w.heap.size) W5 (.slice ba m bc) (u8s f.b)) := hid (HS.out.keep KS.out (fun b _ h1 h2 => by have := h1.2; omega))
              have BS' : Hd (Blk W5 w.heap.size #[(.int .i64 nx), (.slice fa n fc), (.bool true), (.int .u64 (k2 : Int)), (.int .i64 i2)] 35) := hid (by rw [← hW]; exact (blk_set BS.out 2 _))
              have BF' : Hd (Blk W5 b_BF #[(.int .i64 f.q), (.int .i64 f.k), (.bool false), (.slice ba m bc), (.int .u64 (f.t : Int))] 25) := hid (by rw [← hW]; exact (blk_other BF.out (by omega) _ _))
              have BR' : Hd (Blk W5 b_BR #[(.int .i64 0), (.slice none 0 0), (.bool false), (.int .u64 0), (.int .i64 0)] 35) := hid (by rw [← hW]; exact (blk_other BR.out (by omega) _ _))
              have B_K' : Hd (Blk W5 b_K #[(.int .u64 (k2 : Int)), (.int .i64 i2)] 33) := hid (by rw [← hW]; exact (blk_other B_K.out (by omega) _ _))
              clear HV HS BS BF BR B_K
              have HV := HV'
              clear HV'
              have HS := HS'
              clear HS'
              have BS := BS'
              clear BS'
              have BF := BF'
              clear BF'
              have BR := BR'
              clear BR'
              have B_K := B_K'
              clear B_K'
              have HK' : Hd (Keeps (fun _ => False) w W5) := hid (HK.out.trans' KS.out (fun i hi h => by omega))
              clear HK
              have HK := HK'
              clear HK'
              have z_W5 : W4.heap.size + 0 ≤ W5.heap.size := by rw [← hW]; simp
              clear hW KS
              have o_BR_0 : W5.cell? ⟨b_BR, 0, none⟩ = some ((.int .i64 0)) := blk_cell BR.out 0
              have o_BR_1 : W5.cell? ⟨b_BR, 1, none⟩ = some ((.slice none 0 0)) := blk_cell BR.out 1
              have o_BR_2 : W5.cell? ⟨b_BR, 2, none⟩ = some ((.bool false)) := blk_cell BR.out 2
              have o_BR_3 : W5.cell? ⟨b_BR, 3, none⟩ = some ((.int .u64 0)) := blk_cell BR.out 3
              have o_BR_4 : W5.cell? ⟨b_BR, 4, none⟩ = some ((.int .i64 0)) := blk_cell BR.out 4
              have f_BR_0 : W5.frozen? ⟨b_BR, 0, none⟩ = false := blk_free BR.out 0
              have f_BR_1 : W5.frozen? ⟨b_BR, 1, none⟩ = false := blk_free BR.out 1
              have f_BR_2 : W5.frozen? ⟨b_BR, 2, none⟩ = false := blk_free BR.out 2
              have f_BR_3 : W5.frozen? ⟨b_BR, 3, none⟩ = false := blk_free BR.out 3
              have f_BR_4 : W5.frozen? ⟨b_BR, 4, none⟩ = false := blk_free BR.out 4
              have o_BS_0 : W5.cell? ⟨w.heap.size, 0, none⟩ = some ((.int .i64 nx)) := blk_cell BS.out 0
              have o_BS_1 : W5.cell? ⟨w.heap.size, 1, none⟩ = some ((.slice fa n fc)) := blk_cell BS.out 1
              have o_BS_2 : W5.cell? ⟨w.heap.size, 2, none⟩ = some ((.bool true)) := blk_cell BS.out 2
              have o_BS_3 : W5.cell? ⟨w.heap.size, 3, none⟩ = some ((.int .u64 (k2 : Int))) := blk_cell BS.out 3
              have o_BS_4 : W5.cell? ⟨w.heap.size, 4, none⟩ = some ((.int .i64 i2)) := blk_cell BS.out 4
              go_wp2
              clear o_BR_0 o_BR_1 o_BR_2 o_BR_3 o_BR_4 f_BR_0 f_BR_1 f_BR_2 f_BR_3 f_BR_4 o_BS_0 o_BS_1 o_BS_2 o_BS_3 o_BS_4
              obtain ⟨HV2, B3⟩ := fin5 HK.out (show w.heap.size ≤ b_BR by omega) BR.out (.int .i64 nx) (.slice fa n fc) (.bool true) (.int .u64 (k2 : Int)) (.int .i64 i2)
              have r0 := blk_cell B3 0
              have r1 := blk_cell B3 1
              have r2 := blk_cell B3 2
              have r3 := blk_cell B3 3
              have r4 := blk_cell B3 4
              refine bodyPost_ret (v := .tuple #[.agg #[(.int .i64 nx), (.slice fa n fc), (.bool true), (.int .u64 (k2 : Int)), (.int .i64 i2)], .slice none 0 0, .int .i64 32]) (by simp [results, Tryd.results25, go_sem, r0, r1, r2, r3, r4]) rfl ?_
              have k9 := keep5 W5 b_BR (.int .i64 nx) (.slice fa n fc) (.bool true) (.int .u64 (k2 : Int)) (.int .i64 i2)
              exact rr_mk (HR.out.symm.trans (recv2_far HU.out rfl (by show 16 ≤ distM f.q nx; rw [HD.out]; exact hd2) (by show distM f.q nx < 128; rw [HD.out]; omega))) HN.out rfl ((HV.out.keep k9 (fun b _ h1 h2 => by have := h1.2; omega)).mono (fun b _ h => .inl h.1)) (Bds.nil _ _) HV2
            · have d3 : ¬ (16 : Int) ≤ d := by omega
              have hwn : IntKind.i64.wrap (nx + (d : Int)) = nx + (d : Int) := IntWalk.i64_in _ (by omega)
              have o_BS_0 : W4.cell? ⟨w.heap.size, 0, none⟩ = some ((.int .i64 nx)) := blk_cell BS.out 0
              have o_BF_0 : W4.cell? ⟨b_BF, 0, none⟩ = some ((.int .i64 f.q)) := blk_cell BF.out 0
              have f_BF_0 : W4.frozen? ⟨b_BF, 0, none⟩ = false := blk_free BF.out 0
              go_upto_region 20 with fail
              clear o_BS_0 o_BF_0 f_BF_0
              generalize hW : World.setCell W4 _ _ = W5
              have KS : Hd (Keeps (fun b => b = b_BF) W4 W5) := hid (by rw [← hW]; exact (Keeps.setCell (S := fun b => b = b_BF) (p := ⟨b_BF, 0, none⟩) (Keeps.refl (fun b => b = b_BF) W4) (.inl rfl) _))
              have HV' : Hd (Frs (fun b => K b ∧ b < w.heap.size) W5 (.slice fa n fc) fs) := hid (HV.out.keep KS.out (fun b _ h1 h2 => by have := h1.2; omega))
              have HS' : Hd (Sl (fun b => K b ∧ b < w.heap.size) W5 (.slice ba m bc) (u8s f.b)) := hid (HS.out.keep KS.out (fun b _ h1 h2 => by have := h1.2; omega))
              have BS' : Hd (Blk W5 w.heap.size #[(.int .i64 nx), (.slice fa n fc), (.bool false), (.int .u64 (k2 : Int)), (.int .i64 i2)] 35) := hid (by rw [← hW]; exact (blk_other BS.out (by omega) _ _))
              have BF' : Hd (Blk W5 b_BF #[(.int .i64 (nx + (d : Int))), (.int .i64 f.k), (.bool false), (.slice ba m bc), (.int .u64 (f.t : Int))] 25) := hid (by rw [← hW]; exact (blk_set BF.out 0 _))
              have BR' : Hd (Blk W5 b_BR #[(.int .i64 0), (.slice none 0 0), (.bool false), (.int .u64 0), (.int .i64 0)] 35) := hid (by rw [← hW]; exact (blk_other BR.out (by omega) _ _))
              have B_K' : Hd (Blk W5 b_K #[(.int .u64 (k2 : Int)), (.int .i64 i2)] 33) := hid (by rw [← hW]; exact (blk_other B_K.out (by omega) _ _))
              clear HV HS BS BF BR B_K
              have HV := HV'
              clear HV'
              have HS := HS'
              clear HS'
              have BS := BS'
              clear BS'
              have BF := BF'
              clear BF'
              have BR := BR'
              clear BR'
              have B_K := B_K'
              clear B_K'
              have HK' : Hd (Keeps (fun _ => False) w W5) := hid (HK.out.trans' KS.out (fun i hi h => by omega))
              clear HK
              have HK := HK'
              clear HK'
              have z_W5 : W4.heap.size + 0 ≤ W5.heap.size := by rw [← hW]; simp
              clear hW KS
              by_cases hd0 : d = 0
              · subst hd0
                have d4 : ¬ (0 : Int) < ((0 : Nat) : Int) := by omega
                have HDL : Hd (∀ j, j ≤ fs.length → (∀ (i : Nat) (y : Fr), i < j → fs[i]? = some y → y.q = nx + 1 + i) → (∀ (y : Fr), fs[j]? = some y → y.q ≠ nx + 1 + j) → dlvN (nx + 1) fs = j) := hid (dlvN_eq fs (nx + 1))
                rw [HN.out] at HDL
                obtain ⟨J, hJ⟩ : ∃ J, dlvN (nx + 1) fs = J := ⟨_, rfl⟩
                have HDE : Hd (recv2 ⟨nx, fs, false, ⟨k, i⟩⟩ ⟨k2, i2⟩ f = (⟨nx + 1 + (J : Nat), fs.drop J, false, ⟨k2, i2⟩⟩, f.b :: (fs.take J).map (·.b), 0)) := hid (by have h := recv2_del (r := ⟨nx, fs, false, ⟨k, i⟩⟩) (l := ⟨k2, i2⟩) HU.out rfl HD.out; unfold delivM at h; simp only [hJ] at h; exact h)
                rw [hJ] at HDL
                clear hJ
                obtain ⟨i0, hii, hz0, hz1, hz2⟩ := parts1 infoBd
                have hwn1 : IntKind.i64.wrap (nx + 1) = nx + 1 := IntWalk.i64_in _ (by omega)
                have o_BF_3 : W5.cell? ⟨b_BF, 3, none⟩ = some ((.slice ba m bc)) := blk_cell BF.out 3
                go_upto_region 24 with fail
                clear o_BF_3
                generalize hW : World.alloc W5 _ = W6
                have KS : Hd (Keeps (fun _ => False) W5 W6) := hid (by rw [← hW]; exact (Keeps.alloc (Keeps.refl (fun _ => False) W5) _))
                have HV' : Hd (Frs (fun b => K b ∧ b < w.heap.size) W6 (.slice fa n fc) fs) := hid (HV.out.keep KS.out (fun _ _ _ h => h))
                have HS' : Hd (Sl (fun b => K b ∧ b < w.heap.size) W6 (.slice ba m bc) (u8s f.b)) := hid (HS.out.keep KS.out (fun _ _ _ h => h))
                have BS' : Hd (Blk W6 w.heap.size #[(.int .i64 nx), (.slice fa n fc), (.bool false), (.int .u64 (k2 : Int)), (.int .i64 i2)] 35) := hid (by rw [← hW]; exact (blk_alloc BS.out _))
                have BF' : Hd (Blk W6 b_BF #[(.int .i64 (nx + ((0 : Nat) : Int))), (.int .i64 f.k), (.bool false), (.slice ba m bc), (.int .u64 (f.t : Int))] 25) := hid (by rw [← hW]; exact (blk_alloc BF.out _))
                have BR' : Hd (Blk W6 b_BR #[(.int .i64 0), (.slice none 0 0), (.bool false), (.int .u64 0), (.int .i64 0)] 35) := hid (by rw [← hW]; exact (blk_alloc BR.out _))
                have B_K' : Hd (Blk W6 b_K #[(.int .u64 (k2 : Int)), (.int .i64 i2)] 33) := hid (by rw [← hW]; exact (blk_alloc B_K.out _))
                have BO : Hd (Blk W6 W5.heap.size #[(.slice ba m bc)] 22) := hid (by rw [← hW]; exact (blk_new _ _ _))
                clear HV HS BS BF BR B_K
                have HV := HV'
                clear HV'
                have HS := HS'
                clear HS'
                have BS := BS'
                clear BS'
                have BF := BF'
                clear BF'
                have BR := BR'
                clear BR'
                have B_K := B_K'
                clear B_K'
                have HK' : Hd (Keeps (fun _ => False) w W6) := hid (HK.out.trans KS.out)
                clear HK
                have HK := HK'
                clear HK'
                have z_W6 : W5.heap.size + 1 ≤ W6.heap.size := by rw [← hW]; simp
                clear hW KS
                have HOUT : Hd (BdP (fun b => K b ∧ b < w.heap.size) W5.heap.size W6 (.slice (some ⟨W5.heap.size, 0, none⟩) 1 1) [f.b]) := hid (bdp_litK BO.out (Nat.le_refl _) (by rw [← HM.out] at HS ⊢; exact HS.out) (fun h => by have := h.2; omega))
                clear BO
                have o_BS_1 : W6.cell? ⟨w.heap.size, 1, none⟩ = some ((.slice fa n fc)) := blk_cell BS.out 1
                go_wp2_with fail
                clear o_BS_1
                go_loopw [10, 11] (fun ov rv wr => ∃ (j r : Nat) (oa : Option Addr) (oc : Nat) (ra : Option Addr) (rc : Nat), ov = .slice oa (j + 1) oc ∧ rv = .slice ra r rc ∧ j + r = n ∧ Hd (∀ (i : Nat) (y : Fr), i < j → fs[i]? = some y → y.q = nx + 1 + i) ∧ Hd (BdP (fun b => K b ∧ b < w.heap.size) W5.heap.size wr (.slice oa (j + 1) oc) (f.b :: (fs.take j).map (·.b))) ∧ Hd (Frs (fun b => K b ∧ b < w.heap.size) wr (.slice ra r rc) (fs.drop j)) ∧ Hd (Keeps (fun b => W5.heap.size ≤ b) W6 wr)) (fun ov _ _ => n + 1 - slLen ov)
                case atStart => exact ⟨0, n, _, 1, fa, fc, rfl, rfl, by omega, hid (fun i y hi => by omega), hid (by rw [List.take_zero]; exact HOUT.out), hid HV.out, hid (Keeps.refl _ _)⟩
                case round =>
                  obtain ⟨V, rfl⟩ : ∃ V, V = wr := ⟨_, rfl⟩
                  obtain ⟨j, r, oa, oc, ra, rc, rfl, rfl, hjr, HJ, HO, HF, HX2⟩ := hrel
                  have zV := HX2.out.size
                  clear HOUT
                  have hge1 : ∀ b, W5.heap.size ≤ b → w.heap.size ≤ b ∧ b ≠ w.heap.size ∧ b ≠ b_BF ∧ b ≠ b_BR := fun b hb => by omega
                  have BSV := hid (blk_keep BS.out HX2.out (fun h => (hge1 _ h).2.1 rfl))
                  have HFL : Hd ((fs.drop j).length = r) := hid (by rw [List.length_drop, HN.out]; omega)
                  have s0 : V.cell? ⟨w.heap.size, 0, none⟩ = some (.int .i64 nx) := blk_cell BSV.out 0
                  have hwj : IntKind.i64.wrap (nx + ((j : Int) + 1)) = nx + ((j : Int) + 1) := IntWalk.i64_in _ (by omega)
                  by_cases hr : r = 0
                  · have q1 : ¬ ((0 : Int) < (r : Int)) := by omega
                    have q2 : ¬ (0 < r) := by omega
                    have q3 : decide ((0 : Int) < (r : Int)) = false := by simp; omega
                    have q4 : decide (0 < r) = false := by simp; omega
                    have HJN : Hd (j = n) := hid (by omega)
                    clear hr
                    go_upto_region 25 with fail
                    go_quiet (fail)
                    generalize hV9 : World.drewN V _ = V9
                    have K9 : Hd (Keeps (fun _ => False) V V9) := hid (by rw [← hV9]; exact (Keeps.refl _ _).drewN _)
                    have HX9 : Hd (Keeps (fun b => W5.heap.size ≤ b) W6 V9) := hid (HX2.out.trans' K9.out (fun _ _ h => h.elim))
                    clear hV9
                    have HO9 := hid (HO.out.keep K9.out (fun _ _ _ h => h))
                    have HF9 := hid (HF.out.keep K9.out (fun _ _ _ h => h))
                    have BS9 := hid (blk_keep BSV.out K9.out (fun h => h))
                    have z9 := K9.out.size
                    clear HO HF BSV s0 HX2
                    have HJX : Hd (J = j) := hid (HDL.out j (by omega) HJ.out (fun y hy => by rw [List.getElem?_eq_none (by rw [HN.out, HJN.out]; exact Nat.le_refl _)] at hy; cases hy))
                    clear HDL HJ
                    have BR9 := hid (blk_keep BR.out HX9.out (fun h => (hge1 _ h).2.2.2 rfl))
                    have HK9 : Hd (Keeps (fun _ => False) w V9) := hid (HK.out.trans' HX9.out (fun b hb h => by have := (hge1 b h).1; omega))
                    clear BR HK HX9
                    have HK := HK9; have BR := BR9; have BS := BS9
                    clear HK9 BR9 BS9
                    have o_BS_0 : V9.cell? ⟨w.heap.size, 0, none⟩ = some ((.int .i64 nx)) := blk_cell BS.out 0
                    have o_BS_1 : V9.cell? ⟨w.heap.size, 1, none⟩ = some ((.slice fa n fc)) := blk_cell BS.out 1
                    have f_BS_0 : V9.frozen? ⟨w.heap.size, 0, none⟩ = false := blk_free BS.out 0
                    have f_BS_1 : V9.frozen? ⟨w.heap.size, 1, none⟩ = false := blk_free BS.out 1
                    go_upto_region 30 with fail
                    clear o_BS_0 o_BS_1 f_BS_0 f_BS_1
                    have hOB : Hd (∀ b, (Value.slice oa (j + 1) oc).ownBlock = some b → W5.heap.size ≤ b) := hid (by obtain ⟨_, _, h, _⟩ := HO9.out; exact h)
                    generalize hW : World.setCell (World.setCell V9 _ _) _ _ = W61
                    have KS : Hd (Keeps (fun b => b = w.heap.size) V9 W61) := hid (by rw [← hW]; exact (Keeps.setCell (S := fun b => b = w.heap.size) (p := ⟨w.heap.size, 1, none⟩) (Keeps.setCell (S := fun b => b = w.heap.size) (p := ⟨w.heap.size, 0, none⟩) (Keeps.refl (fun b => b = w.heap.size) V9) (.inl rfl) _) (.inl rfl) _))
                    have BS' : Hd (Blk W61 w.heap.size #[(.int .i64 (nx + ((j : Int) + 1))), (.slice ra r rc), (.bool false), (.int .u64 (k2 : Int)), (.int .i64 i2)] 35) := hid (by rw [← hW]; exact (blk_set (blk_set BS.out 0 _) 1 _))
                    have BR' : Hd (Blk W61 b_BR #[(.int .i64 0), (.slice none 0 0), (.bool false), (.int .u64 0), (.int .i64 0)] 35) := hid (by rw [← hW]; exact (blk_other (blk_other BR.out (by omega) _ _) (by omega) _ _))
                    clear BS BR
                    have BS := BS'
                    clear BS'
                    have BR := BR'
                    clear BR'
                    have HK' : Hd (Keeps (fun _ => False) w W61) := hid (HK.out.trans' KS.out (fun i hi h => by omega))
                    clear HK
                    have HK := HK'
                    clear HK'
                    have z_W61 : V9.heap.size + 0 ≤ W61.heap.size := by rw [← hW]; simp
                    have HOZ : Hd (Bds (fun b => (K b ∧ b < w.heap.size) ∨ W5.heap.size ≤ b) W61 (.slice oa (j + 1) oc) (f.b :: (fs.take j).map (·.b))) := hid (HO9.out.bds.keep KS.out (fun b _ h1 h2 => by rcases h1 with h1 | h1; (have := h1.2; omega); exact (hge1 b h1).2.1 h2))
                    have HFZ : Hd (Frs (fun b => K b ∧ b < w.heap.size) W61 (.slice ra r rc) (fs.drop j)) := hid (HF9.out.keep KS.out (fun b _ h1 h2 => by have := h1.2; omega))
                    clear hW KS
                    have o_BR_0 : W61.cell? ⟨b_BR, 0, none⟩ = some ((.int .i64 0)) := blk_cell BR.out 0
                    have o_BR_1 : W61.cell? ⟨b_BR, 1, none⟩ = some ((.slice none 0 0)) := blk_cell BR.out 1
                    have o_BR_2 : W61.cell? ⟨b_BR, 2, none⟩ = some ((.bool false)) := blk_cell BR.out 2
                    have o_BR_3 : W61.cell? ⟨b_BR, 3, none⟩ = some ((.int .u64 0)) := blk_cell BR.out 3
                    have o_BR_4 : W61.cell? ⟨b_BR, 4, none⟩ = some ((.int .i64 0)) := blk_cell BR.out 4
                    have f_BR_0 : W61.frozen? ⟨b_BR, 0, none⟩ = false := blk_free BR.out 0
                    have f_BR_1 : W61.frozen? ⟨b_BR, 1, none⟩ = false := blk_free BR.out 1
                    have f_BR_2 : W61.frozen? ⟨b_BR, 2, none⟩ = false := blk_free BR.out 2
                    have f_BR_3 : W61.frozen? ⟨b_BR, 3, none⟩ = false := blk_free BR.out 3
                    have f_BR_4 : W61.frozen? ⟨b_BR, 4, none⟩ = false := blk_free BR.out 4
                    have o_BS_0 : W61.cell? ⟨w.heap.size, 0, none⟩ = some ((.int .i64 (nx + ((j : Int) + 1)))) := blk_cell BS.out 0
                    have o_BS_1 : W61.cell? ⟨w.heap.size, 1, none⟩ = some ((.slice ra r rc)) := blk_cell BS.out 1
                    have o_BS_2 : W61.cell? ⟨w.heap.size, 2, none⟩ = some ((.bool false)) := blk_cell BS.out 2
                    have o_BS_3 : W61.cell? ⟨w.heap.size, 3, none⟩ = some ((.int .u64 (k2 : Int))) := blk_cell BS.out 3
                    have o_BS_4 : W61.cell? ⟨w.heap.size, 4, none⟩ = some ((.int .i64 i2)) := blk_cell BS.out 4
                    go_wp2
                    clear o_BR_0 o_BR_1 o_BR_2 o_BR_3 o_BR_4 f_BR_0 f_BR_1 f_BR_2 f_BR_3 f_BR_4 o_BS_0 o_BS_1 o_BS_2 o_BS_3 o_BS_4
                    obtain ⟨HV2, B3⟩ := fin5 HK.out (show w.heap.size ≤ b_BR by omega) BR.out (.int .i64 (nx + ((j : Int) + 1))) (.slice ra r rc) (.bool false) (.int .u64 (k2 : Int)) (.int .i64 i2)
                    have r0 := blk_cell B3 0
                    have r1 := blk_cell B3 1
                    have r2 := blk_cell B3 2
                    have r3 := blk_cell B3 3
                    have r4 := blk_cell B3 4
                    refine bodyPost_ret (v := .tuple #[.agg #[(.int .i64 (nx + ((j : Int) + 1))), (.slice ra r rc), (.bool false), (.int .u64 (k2 : Int)), (.int .i64 i2)], .slice oa (j + 1) oc, .int .i64 0]) (by simp [results, Tryd.results25, go_sem, r0, r1, r2, r3, r4]) rfl ?_
                    have k9 := keep5 W61 b_BR (.int .i64 (nx + ((j : Int) + 1))) (.slice ra r rc) (.bool false) (.int .u64 (k2 : Int)) (.int .i64 i2)
                    exact rr_mk (HR.out.symm.trans (by rw [HDE.out, HJX.out, show nx + 1 + ((j : Nat) : Int) = nx + ((j : Int) + 1) by omega])) HFL.out (by rw [List.length_cons, List.length_map, List.length_take, HN.out]; omega) ((HFZ.out.keep k9 (fun b _ h1 h2 => by have := h1.2; omega)).mono (fun b _ h => .inl h.1)) ((HOZ.out.keep k9 (fun b _ h1 h2 => by rcases h1 with h1 | h1; (have := h1.2; omega); exact (hge1 b h1).2.2.2 h2)).mono (fun b _ h => by rcases h with h | h; exact .inl h.1; exact .inr (hge1 b h).1)) HV2
                  · have hr0 : 0 < r := by omega
                    clear hr
                    have q1 : (0 : Int) < (r : Int) := by omega
                    obtain ⟨bx, ox, rfl, hbx, -, hc⟩ := frs_cells HF.out (by rw [HFL.out]; exact hr0)
                    have hbxw : bx < w.heap.size := hbx.2
                    clear hbx
                    obtain ⟨x, hx⟩ : ∃ x, fs[j]? = some x := ⟨fs[j]'(by rw [HN.out]; omega), List.getElem?_eq_getElem _⟩
                    obtain ⟨e0, -, -, -, ad, cd, e3, hsx⟩ := hc 0 x (by rw [List.getElem?_drop]; exact hx)
                    rw [Nat.zero_mul, Nat.add_zero] at e0 e3
                    have HXJ := hid hx
                    have HSX := hid hsx
                    clear hc hsx hx
                    obtain ⟨xq, hxq⟩ : ∃ xq, x.q = xq := ⟨_, rfl⟩
                    rw [hxq] at e0
                    have HXQ := hid hxq
                    clear hxq
                    by_cases hq : xq = nx + ((j : Int) + 1)
                    · subst hq
                      have hyy : (nx + ((j : Int) + 1) == nx + ((j : Int) + 1)) = true := by simp
                      have E3 := hid e3
                      clear e3
                      go_upto_region 25 with fail
                      go_quiet (fail)
                      generalize hV9 : World.drewN V _ = V9
                      have K9 : Hd (Keeps (fun _ => False) V V9) := hid (by rw [← hV9]; exact (Keeps.refl _ _).drewN _)
                      have HX9 : Hd (Keeps (fun b => W5.heap.size ≤ b) W6 V9) := hid (HX2.out.trans' K9.out (fun _ _ h => h.elim))
                      clear hV9
                      have HO9 := hid (HO.out.keep K9.out (fun _ _ _ h => h))
                      have HF9 := hid (HF.out.keep K9.out (fun _ _ _ h => h))
                      have BS9 := hid (blk_keep BSV.out K9.out (fun h => h))
                      have z9 := K9.out.size
                      clear HO HF BSV s0 HX2
                      clear hyy e0
                      have e3 := keep_cell K9.out (fun h => h) E3.out
                      have HSX9 := hid (HSX.out.keep K9.out (fun _ _ _ h => h))
                      clear E3 HSX
                      obtain ⟨xs, hO, hge, hB⟩ := HO9.out
                      have HOL : Hd ((f.b :: (fs.take j).map (·.b)).length = j + 1) := hid (by rw [List.length_cons, List.length_map, List.length_take, HN.out]; omega)
                      rw [HOL.out] at hO
                      have HOX := hid hO; have HGE := hid hge; have HBX := hid hB
                      clear hO hge hB HO9
                      obtain ⟨xl, hxl⟩ : ∃ xl, x.b.length = xl := ⟨_, rfl⟩
                      have HXLL := hid hxl
                      rw [hxl] at e3 HSX9
                      clear hxl
                      go_wp2_with (at_builtin; refine wpList_append_row rfl _ _ 43 rfl 22 i0 (.slice none 0 0) 1 24 Tryd.underlying43 hii hz0 hz1 hz2 rfl (by decide) _ (fun _ => True) _ _ _ _ rfl (HOX.out.alloc _) 1 _ rfl (one_src _ _ _) (by intro u hu; simp at hu; subst hu; rfl) ?h1 ?h2 ?_)
                      case h1 => simp [maxLen]; omega
                      case h2 => omega
                      intro a3 c3 w1 hown hgrow; try intro _
                      have hk : Keeps (fun b => (Value.slice oa (j + 1) oc).ownBlock = some b) V9 w1 := (keeps_alloc _ _ (.cells #[.slice ad xl cd] 22)).trans hgrow
                      have HO1 : Hd (BdP (fun b => K b ∧ b < w.heap.size) W5.heap.size w1 (.slice a3 (j + 1 + 1) c3) (f.b :: (fs.take (j + 1)).map (·.b))) := hid (by
                        rw [show f.b :: (fs.take (j + 1)).map (·.b) = (f.b :: (fs.take j).map (·.b)) ++ [x.b] by rw [List.take_add_one, HXJ.out]; simp]
                        refine bdp_append (v := .slice oa (j + 1) oc) (ns := [.slice ad xl cd]) HGE.out HBX.out (keeps_alloc _ _ (.cells #[.slice ad xl cd] 22)) (BdL.one ((HSX9.out.keep (keeps_alloc (fun _ => False) _ _) (fun _ _ _ h => h)).mono (fun b _ h => ⟨h, fun e => by have := (hge1 b (HGE.out b e)).1; have := h.2; omega⟩))) (by simp; omega) ?_ (by first | exact hgrow | exact hgrow.mono (fun _ _ h => h))
                        rw [HOL.out]
                        first | exact hown | simpa using hown)
                      have HF1 := hid (HF9.out.keep hk (fun b _ h1 h2 => by have := (hge1 b (HGE.out b h2)).1; have := h1.2; omega))
                      have HK1 : Hd (Keeps (fun b => W5.heap.size ≤ b) W6 w1) := hid (HX9.out.trans' hk (fun b _ h => HGE.out b h))
                      clear hown hgrow HOX HBX hk e3 HF9 HX9 BS9
                      obtain ⟨a5, c5, hcut, hfr⟩ := frs_cut HF1.out HFL.out hr0
                      have HFR := hid hfr
                      clear hfr
                      go_wp2
                      go_roundw
                      case rel =>
                        refine ⟨j + 1, r - 1, a3, c3, a5, c5, by first | rfl | go_num, rfl, by omega, hid (fun i y hi hy => ?_), HO1, hid ?_, HK1⟩
                        · rcases Nat.lt_or_ge i j with h | h
                          · exact HJ.out i y h hy
                          · obtain rfl : i = j := by omega
                            rw [HXJ.out] at hy; injection hy with hy; subst hy; rw [HXQ.out]; omega
                        · rw [show fs.drop (j + 1) = (fs.drop j).drop 1 by rw [List.drop_drop]]; exact HFR.out
                      case measure => simp [slLen]; omega
                    · have hne : (xq == nx + ((j : Int) + 1)) = false := by simp; omega
                      go_upto_region 25 with fail
                      go_quiet (fail)
                      generalize hV9 : World.drewN V _ = V9
                      have K9 : Hd (Keeps (fun _ => False) V V9) := hid (by rw [← hV9]; exact (Keeps.refl _ _).drewN _)
                      have HX9 : Hd (Keeps (fun b => W5.heap.size ≤ b) W6 V9) := hid (HX2.out.trans' K9.out (fun _ _ h => h.elim))
                      clear hV9
                      have HO9 := hid (HO.out.keep K9.out (fun _ _ _ h => h))
                      have HF9 := hid (HF.out.keep K9.out (fun _ _ _ h => h))
                      have BS9 := hid (blk_keep BSV.out K9.out (fun h => h))
                      have z9 := K9.out.size
                      clear HO HF BSV s0 HX2
                      clear e0 e3 hne
                      have HJX : Hd (J = j) := hid (HDL.out j (by omega) HJ.out (fun y hy => by rw [HXJ.out] at hy; injection hy with hy; subst hy; rw [HXQ.out]; omega))
                      clear HDL HJ
                      have BR9 := hid (blk_keep BR.out HX9.out (fun h => (hge1 _ h).2.2.2 rfl))
                      have HK9 : Hd (Keeps (fun _ => False) w V9) := hid (HK.out.trans' HX9.out (fun b hb h => by have := (hge1 b h).1; omega))
                      clear BR HK HX9
                      have HK := HK9; have BR := BR9; have BS := BS9
                      clear HK9 BR9 BS9
                      have o_BS_0 : V9.cell? ⟨w.heap.size, 0, none⟩ = some ((.int .i64 nx)) := blk_cell BS.out 0
                      have o_BS_1 : V9.cell? ⟨w.heap.size, 1, none⟩ = some ((.slice fa n fc)) := blk_cell BS.out 1
                      have f_BS_0 : V9.frozen? ⟨w.heap.size, 0, none⟩ = false := blk_free BS.out 0
                      have f_BS_1 : V9.frozen? ⟨w.heap.size, 1, none⟩ = false := blk_free BS.out 1
                      go_upto_region 30 with fail
                      clear o_BS_0 o_BS_1 f_BS_0 f_BS_1
                      have hOB : Hd (∀ b, (Value.slice oa (j + 1) oc).ownBlock = some b → W5.heap.size ≤ b) := hid (by obtain ⟨_, _, h, _⟩ := HO9.out; exact h)
                      generalize hW : World.setCell (World.setCell V9 _ _) _ _ = W61
                      have KS : Hd (Keeps (fun b => b = w.heap.size) V9 W61) := hid (by rw [← hW]; exact (Keeps.setCell (S := fun b => b = w.heap.size) (p := ⟨w.heap.size, 1, none⟩) (Keeps.setCell (S := fun b => b = w.heap.size) (p := ⟨w.heap.size, 0, none⟩) (Keeps.refl (fun b => b = w.heap.size) V9) (.inl rfl) _) (.inl rfl) _))
                      have BS' : Hd (Blk W61 w.heap.size #[(.int .i64 (nx + ((j : Int) + 1))), (.slice (some ⟨bx, ox, none⟩) r rc), (.bool false), (.int .u64 (k2 : Int)), (.int .i64 i2)] 35) := hid (by rw [← hW]; exact (blk_set (blk_set BS.out 0 _) 1 _))
                      have BR' : Hd (Blk W61 b_BR #[(.int .i64 0), (.slice none 0 0), (.bool false), (.int .u64 0), (.int .i64 0)] 35) := hid (by rw [← hW]; exact (blk_other (blk_other BR.out (by omega) _ _) (by omega) _ _))
                      clear BS BR
                      have BS := BS'
                      clear BS'
                      have BR := BR'
                      clear BR'
                      have HK' : Hd (Keeps (fun _ => False) w W61) := hid (HK.out.trans' KS.out (fun i hi h => by omega))
                      clear HK
                      have HK := HK'
                      clear HK'
                      have z_W61 : V9.heap.size + 0 ≤ W61.heap.size := by rw [← hW]; simp
                      have HOZ : Hd (Bds (fun b => (K b ∧ b < w.heap.size) ∨ W5.heap.size ≤ b) W61 (.slice oa (j + 1) oc) (f.b :: (fs.take j).map (·.b))) := hid (HO9.out.bds.keep KS.out (fun b _ h1 h2 => by rcases h1 with h1 | h1; (have := h1.2; omega); exact (hge1 b h1).2.1 h2))
                      have HFZ : Hd (Frs (fun b => K b ∧ b < w.heap.size) W61 (.slice (some ⟨bx, ox, none⟩) r rc) (fs.drop j)) := hid (HF9.out.keep KS.out (fun b _ h1 h2 => by have := h1.2; omega))
                      clear hW KS
                      have o_BR_0 : W61.cell? ⟨b_BR, 0, none⟩ = some ((.int .i64 0)) := blk_cell BR.out 0
                      have o_BR_1 : W61.cell? ⟨b_BR, 1, none⟩ = some ((.slice none 0 0)) := blk_cell BR.out 1
                      have o_BR_2 : W61.cell? ⟨b_BR, 2, none⟩ = some ((.bool false)) := blk_cell BR.out 2
                      have o_BR_3 : W61.cell? ⟨b_BR, 3, none⟩ = some ((.int .u64 0)) := blk_cell BR.out 3
                      have o_BR_4 : W61.cell? ⟨b_BR, 4, none⟩ = some ((.int .i64 0)) := blk_cell BR.out 4
                      have f_BR_0 : W61.frozen? ⟨b_BR, 0, none⟩ = false := blk_free BR.out 0
                      have f_BR_1 : W61.frozen? ⟨b_BR, 1, none⟩ = false := blk_free BR.out 1
                      have f_BR_2 : W61.frozen? ⟨b_BR, 2, none⟩ = false := blk_free BR.out 2
                      have f_BR_3 : W61.frozen? ⟨b_BR, 3, none⟩ = false := blk_free BR.out 3
                      have f_BR_4 : W61.frozen? ⟨b_BR, 4, none⟩ = false := blk_free BR.out 4
                      have o_BS_0 : W61.cell? ⟨w.heap.size, 0, none⟩ = some ((.int .i64 (nx + ((j : Int) + 1)))) := blk_cell BS.out 0
                      have o_BS_1 : W61.cell? ⟨w.heap.size, 1, none⟩ = some ((.slice (some ⟨bx, ox, none⟩) r rc)) := blk_cell BS.out 1
                      have o_BS_2 : W61.cell? ⟨w.heap.size, 2, none⟩ = some ((.bool false)) := blk_cell BS.out 2
                      have o_BS_3 : W61.cell? ⟨w.heap.size, 3, none⟩ = some ((.int .u64 (k2 : Int))) := blk_cell BS.out 3
                      have o_BS_4 : W61.cell? ⟨w.heap.size, 4, none⟩ = some ((.int .i64 i2)) := blk_cell BS.out 4
                      go_wp2
                      clear o_BR_0 o_BR_1 o_BR_2 o_BR_3 o_BR_4 f_BR_0 f_BR_1 f_BR_2 f_BR_3 f_BR_4 o_BS_0 o_BS_1 o_BS_2 o_BS_3 o_BS_4
                      obtain ⟨HV2, B3⟩ := fin5 HK.out (show w.heap.size ≤ b_BR by omega) BR.out (.int .i64 (nx + ((j : Int) + 1))) (.slice (some ⟨bx, ox, none⟩) r rc) (.bool false) (.int .u64 (k2 : Int)) (.int .i64 i2)
                      have r0 := blk_cell B3 0
                      have r1 := blk_cell B3 1
                      have r2 := blk_cell B3 2
                      have r3 := blk_cell B3 3
                      have r4 := blk_cell B3 4
                      refine bodyPost_ret (v := .tuple #[.agg #[(.int .i64 (nx + ((j : Int) + 1))), (.slice (some ⟨bx, ox, none⟩) r rc), (.bool false), (.int .u64 (k2 : Int)), (.int .i64 i2)], .slice oa (j + 1) oc, .int .i64 0]) (by simp [results, Tryd.results25, go_sem, r0, r1, r2, r3, r4]) rfl ?_
                      have k9 := keep5 W61 b_BR (.int .i64 (nx + ((j : Int) + 1))) (.slice (some ⟨bx, ox, none⟩) r rc) (.bool false) (.int .u64 (k2 : Int)) (.int .i64 i2)
                      exact rr_mk (HR.out.symm.trans (by rw [HDE.out, HJX.out, show nx + 1 + ((j : Nat) : Int) = nx + ((j : Int) + 1) by omega])) HFL.out (by rw [List.length_cons, List.length_map, List.length_take, HN.out]; omega) ((HFZ.out.keep k9 (fun b _ h1 h2 => by have := h1.2; omega)).mono (fun b _ h => .inl h.1)) ((HOZ.out.keep k9 (fun b _ h1 h2 => by rcases h1 with h1 | h1; (have := h1.2; omega); exact (hge1 b h1).2.2.2 h2)).mono (fun b _ h => by rcases h with h | h; exact .inl h.1; exact .inr (hge1 b h).1)) HV2
              · have d4 : (0 : Int) < d := by omega
                obtain ⟨f2, hf2⟩ : ∃ y, setQ f (nx + (d : Int)) = y := ⟨_, rfl⟩
                obtain ⟨I, hI⟩ : ∃ I, insM f2 fs = I := ⟨_, rfl⟩
                obtain ⟨iN, hiN⟩ : ∃ z, I.length = z := ⟨_, rfl⟩
                have HIN := hid hiN
                have HPU : Hd (∀ X, Keeps (fun _ => False) W5 X → Calls Tryd.prog 72 #[.slice fa n fc, .agg #[(.int .i64 (nx + (d : Int))), (.int .i64 f.k), (.bool false), (.slice ba m bc), (.int .u64 (f.t : Int))]] X fun e w' => ∃ a2 c2, e = .returned (.slice a2 iN c2) ∧ Frs (fun b => (K b ∧ b < w.heap.size) ∨ X.heap.size ≤ b) w' (.slice a2 iN c2) I ∧ Keeps (fun _ => False) X w') := hid (fun X hx => by have h := Rput_any fs f2 fa fc ba bc (fun b => K b ∧ b < w.heap.size) X (by rw [HN.out]; exact HV.out.keep hx (fun _ _ _ h => h)) (by rw [← hf2]; show Sl _ X (.slice ba f.b.length bc) (u8s f.b); rw [HM.out]; exact HS.out.keep hx (fun _ _ _ h => h)) (by rw [HN.out]; omega); rw [hI, hiN, HN.out, ← hf2] at h; simp only [setQ, HM.out, HU.out] at h; exact h)
                have HIM : Hd (recv2 ⟨nx, fs, false, ⟨k, i⟩⟩ ⟨k2, i2⟩ f = (⟨nx, I, false, ⟨k2, i2⟩⟩, [], 0)) := hid (by have h := recv2_keep (r := ⟨nx, fs, false, ⟨k, i⟩⟩) (l := ⟨k2, i2⟩) HU.out rfl (by show distM f.q nx ≠ 0; rw [HD.out]; exact hd0) (by show distM f.q nx < 16; rw [HD.out]; omega); simp only [HD.out, hf2, hI] at h; exact h)
                clear hf2 hI hiN
                have o_BS_1 : W5.cell? ⟨w.heap.size, 1, none⟩ = some ((.slice fa n fc)) := blk_cell BS.out 1
                have o_BF_0 : W5.cell? ⟨b_BF, 0, none⟩ = some ((.int .i64 (nx + (d : Int)))) := blk_cell BF.out 0
                have o_BF_1 : W5.cell? ⟨b_BF, 1, none⟩ = some ((.int .i64 f.k)) := blk_cell BF.out 1
                have o_BF_2 : W5.cell? ⟨b_BF, 2, none⟩ = some ((.bool false)) := blk_cell BF.out 2
                have o_BF_3 : W5.cell? ⟨b_BF, 3, none⟩ = some ((.slice ba m bc)) := blk_cell BF.out 3
                have o_BF_4 : W5.cell? ⟨b_BF, 4, none⟩ = some ((.int .u64 (f.t : Int))) := blk_cell BF.out 4
                go_wp2_with fail
                refine (HPU.out _ (Keeps.refl _ _)).mono ?_
                rintro e X1 ⟨a2, c2, rfl, hfr, hk⟩
                clear o_BS_1 o_BF_0 o_BF_1 o_BF_2 o_BF_3 o_BF_4
                have HFR := hid hfr
                clear hfr HPU
                have HV' : Hd (Frs (fun b => K b ∧ b < w.heap.size) X1 (.slice fa n fc) fs) := hid (HV.out.keep hk (fun _ _ _ h => h))
                have HS' : Hd (Sl (fun b => K b ∧ b < w.heap.size) X1 (.slice ba m bc) (u8s f.b)) := hid (HS.out.keep hk (fun _ _ _ h => h))
                have BS' : Hd (Blk X1 w.heap.size #[(.int .i64 nx), (.slice fa n fc), (.bool false), (.int .u64 (k2 : Int)), (.int .i64 i2)] 35) := hid (blk_keep BS.out hk (fun h => h))
                have BF' : Hd (Blk X1 b_BF #[(.int .i64 (nx + (d : Int))), (.int .i64 f.k), (.bool false), (.slice ba m bc), (.int .u64 (f.t : Int))] 25) := hid (blk_keep BF.out hk (fun h => h))
                have BR' : Hd (Blk X1 b_BR #[(.int .i64 0), (.slice none 0 0), (.bool false), (.int .u64 0), (.int .i64 0)] 35) := hid (blk_keep BR.out hk (fun h => h))
                have B_K' : Hd (Blk X1 b_K #[(.int .u64 (k2 : Int)), (.int .i64 i2)] 33) := hid (blk_keep B_K.out hk (fun h => h))
                clear HV HS BS BF BR B_K
                have HV := HV'
                clear HV'
                have HS := HS'
                clear HS'
                have BS := BS'
                clear BS'
                have BF := BF'
                clear BF'
                have BR := BR'
                clear BR'
                have B_K := B_K'
                clear B_K'
                have HK' : Hd (Keeps (fun _ => False) w X1) := hid (HK.out.trans hk)
                clear HK
                have HK := HK'
                clear HK'
                have z_X1 := hk.size
                clear hk
                have o_BS_1 : X1.cell? ⟨w.heap.size, 1, none⟩ = some ((.slice fa n fc)) := blk_cell BS.out 1
                have f_BS_1 : X1.frozen? ⟨w.heap.size, 1, none⟩ = false := blk_free BS.out 1
                go_upto_region 22 with fail
                clear o_BS_1 f_BS_1
                generalize hW : World.setCell X1 _ _ = W6
                have KS : Hd (Keeps (fun b => b = w.heap.size) X1 W6) := hid (by rw [← hW]; exact (Keeps.setCell (S := fun b => b = w.heap.size) (p := ⟨w.heap.size, 1, none⟩) (Keeps.refl (fun b => b = w.heap.size) X1) (.inl rfl) _))
                have HV' : Hd (Frs (fun b => K b ∧ b < w.heap.size) W6 (.slice fa n fc) fs) := hid (HV.out.keep KS.out (fun b _ h1 h2 => by have := h1.2; omega))
                have HS' : Hd (Sl (fun b => K b ∧ b < w.heap.size) W6 (.slice ba m bc) (u8s f.b)) := hid (HS.out.keep KS.out (fun b _ h1 h2 => by have := h1.2; omega))
                have BS' : Hd (Blk W6 w.heap.size #[(.int .i64 nx), (.slice a2 iN c2), (.bool false), (.int .u64 (k2 : Int)), (.int .i64 i2)] 35) := hid (by rw [← hW]; exact (blk_set BS.out 1 _))
                have BF' : Hd (Blk W6 b_BF #[(.int .i64 (nx + (d : Int))), (.int .i64 f.k), (.bool false), (.slice ba m bc), (.int .u64 (f.t : Int))] 25) := hid (by rw [← hW]; exact (blk_other BF.out (by omega) _ _))
                have BR' : Hd (Blk W6 b_BR #[(.int .i64 0), (.slice none 0 0), (.bool false), (.int .u64 0), (.int .i64 0)] 35) := hid (by rw [← hW]; exact (blk_other BR.out (by omega) _ _))
                have B_K' : Hd (Blk W6 b_K #[(.int .u64 (k2 : Int)), (.int .i64 i2)] 33) := hid (by rw [← hW]; exact (blk_other B_K.out (by omega) _ _))
                have HFR' : Hd (Frs (fun b => (K b ∧ b < w.heap.size) ∨ W5.heap.size ≤ b) W6 (.slice a2 iN c2) I) := hid (HFR.out.keep KS.out (fun b _ h1 h2 => by rcases h1 with h1 | h1; (have := h1.2; omega); omega))
                clear HV HS BS BF BR B_K HFR
                have HV := HV'
                clear HV'
                have HS := HS'
                clear HS'
                have BS := BS'
                clear BS'
                have BF := BF'
                clear BF'
                have BR := BR'
                clear BR'
                have B_K := B_K'
                clear B_K'
                have HFR := HFR'
                clear HFR'
                have HK' : Hd (Keeps (fun _ => False) w W6) := hid (HK.out.trans' KS.out (fun i hi h => by omega))
                clear HK
                have HK := HK'
                clear HK'
                have z_W6 : X1.heap.size + 0 ≤ W6.heap.size := by rw [← hW]; simp
                clear hW KS
                have o_BR_0 : W6.cell? ⟨b_BR, 0, none⟩ = some ((.int .i64 0)) := blk_cell BR.out 0
                have o_BR_1 : W6.cell? ⟨b_BR, 1, none⟩ = some ((.slice none 0 0)) := blk_cell BR.out 1
                have o_BR_2 : W6.cell? ⟨b_BR, 2, none⟩ = some ((.bool false)) := blk_cell BR.out 2
                have o_BR_3 : W6.cell? ⟨b_BR, 3, none⟩ = some ((.int .u64 0)) := blk_cell BR.out 3
                have o_BR_4 : W6.cell? ⟨b_BR, 4, none⟩ = some ((.int .i64 0)) := blk_cell BR.out 4
                have f_BR_0 : W6.frozen? ⟨b_BR, 0, none⟩ = false := blk_free BR.out 0
                have f_BR_1 : W6.frozen? ⟨b_BR, 1, none⟩ = false := blk_free BR.out 1
                have f_BR_2 : W6.frozen? ⟨b_BR, 2, none⟩ = false := blk_free BR.out 2
                have f_BR_3 : W6.frozen? ⟨b_BR, 3, none⟩ = false := blk_free BR.out 3
                have f_BR_4 : W6.frozen? ⟨b_BR, 4, none⟩ = false := blk_free BR.out 4
                have o_BS_0 : W6.cell? ⟨w.heap.size, 0, none⟩ = some ((.int .i64 nx)) := blk_cell BS.out 0
                have o_BS_1 : W6.cell? ⟨w.heap.size, 1, none⟩ = some ((.slice a2 iN c2)) := blk_cell BS.out 1
                have o_BS_2 : W6.cell? ⟨w.heap.size, 2, none⟩ = some ((.bool false)) := blk_cell BS.out 2
                have o_BS_3 : W6.cell? ⟨w.heap.size, 3, none⟩ = some ((.int .u64 (k2 : Int))) := blk_cell BS.out 3
                have o_BS_4 : W6.cell? ⟨w.heap.size, 4, none⟩ = some ((.int .i64 i2)) := blk_cell BS.out 4
                go_wp2
                clear o_BR_0 o_BR_1 o_BR_2 o_BR_3 o_BR_4 f_BR_0 f_BR_1 f_BR_2 f_BR_3 f_BR_4 o_BS_0 o_BS_1 o_BS_2 o_BS_3 o_BS_4
                obtain ⟨HV2, B3⟩ := fin5 HK.out (show w.heap.size ≤ b_BR by omega) BR.out (.int .i64 nx) (.slice a2 iN c2) (.bool false) (.int .u64 (k2 : Int)) (.int .i64 i2)
                have r0 := blk_cell B3 0
                have r1 := blk_cell B3 1
                have r2 := blk_cell B3 2
                have r3 := blk_cell B3 3
                have r4 := blk_cell B3 4
                refine bodyPost_ret (v := .tuple #[.agg #[(.int .i64 nx), (.slice a2 iN c2), (.bool false), (.int .u64 (k2 : Int)), (.int .i64 i2)], .slice none 0 0, .int .i64 0]) (by simp [results, Tryd.results25, go_sem, r0, r1, r2, r3, r4]) rfl ?_
                have k9 := keep5 W6 b_BR (.int .i64 nx) (.slice a2 iN c2) (.bool false) (.int .u64 (k2 : Int)) (.int .i64 i2)
                exact rr_mk (HR.out.symm.trans (HIM.out)) HIN.out rfl ((HFR.out.keep k9 (fun b _ h1 h2 => by rcases h1 with h1 | h1; (have := h1.2; omega); omega)).mono (fun b _ h => by rcases h with h | h; exact .inl h.1; exact .inr (by omega))) (Bds.nil _ _) HV2
        · have o_BF_2 : W4.cell? ⟨b_BF, 2, none⟩ = some ((.bool false)) := blk_cell BF.out 2
          have o_BS_2 : W4.cell? ⟨w.heap.size, 2, none⟩ = some ((.bool true)) := blk_cell BS.out 2
          go_upto_region 13 with fail
          clear o_BF_2 o_BS_2
          have o_BR_0 : W4.cell? ⟨b_BR, 0, none⟩ = some ((.int .i64 0)) := blk_cell BR.out 0
          have o_BR_1 : W4.cell? ⟨b_BR, 1, none⟩ = some ((.slice none 0 0)) := blk_cell BR.out 1
          have o_BR_2 : W4.cell? ⟨b_BR, 2, none⟩ = some ((.bool false)) := blk_cell BR.out 2
          have o_BR_3 : W4.cell? ⟨b_BR, 3, none⟩ = some ((.int .u64 0)) := blk_cell BR.out 3
          have o_BR_4 : W4.cell? ⟨b_BR, 4, none⟩ = some ((.int .i64 0)) := blk_cell BR.out 4
          have f_BR_0 : W4.frozen? ⟨b_BR, 0, none⟩ = false := blk_free BR.out 0
          have f_BR_1 : W4.frozen? ⟨b_BR, 1, none⟩ = false := blk_free BR.out 1
          have f_BR_2 : W4.frozen? ⟨b_BR, 2, none⟩ = false := blk_free BR.out 2
          have f_BR_3 : W4.frozen? ⟨b_BR, 3, none⟩ = false := blk_free BR.out 3
          have f_BR_4 : W4.frozen? ⟨b_BR, 4, none⟩ = false := blk_free BR.out 4
          have o_BS_0 : W4.cell? ⟨w.heap.size, 0, none⟩ = some ((.int .i64 nx)) := blk_cell BS.out 0
          have o_BS_1 : W4.cell? ⟨w.heap.size, 1, none⟩ = some ((.slice fa n fc)) := blk_cell BS.out 1
          have o_BS_2 : W4.cell? ⟨w.heap.size, 2, none⟩ = some ((.bool true)) := blk_cell BS.out 2
          have o_BS_3 : W4.cell? ⟨w.heap.size, 3, none⟩ = some ((.int .u64 (k2 : Int))) := blk_cell BS.out 3
          have o_BS_4 : W4.cell? ⟨w.heap.size, 4, none⟩ = some ((.int .i64 i2)) := blk_cell BS.out 4
          go_wp2
          clear o_BR_0 o_BR_1 o_BR_2 o_BR_3 o_BR_4 f_BR_0 f_BR_1 f_BR_2 f_BR_3 f_BR_4 o_BS_0 o_BS_1 o_BS_2 o_BS_3 o_BS_4
          obtain ⟨HV2, B3⟩ := fin5 HK.out (show w.heap.size ≤ b_BR by omega) BR.out (.int .i64 nx) (.slice fa n fc) (.bool true) (.int .u64 (k2 : Int)) (.int .i64 i2)
          have r0 := blk_cell B3 0
          have r1 := blk_cell B3 1
          have r2 := blk_cell B3 2
          have r3 := blk_cell B3 3
          have r4 := blk_cell B3 4
          refine bodyPost_ret (v := .tuple #[.agg #[(.int .i64 nx), (.slice fa n fc), (.bool true), (.int .u64 (k2 : Int)), (.int .i64 i2)], .slice none 0 0, .int .i64 31]) (by simp [results, Tryd.results25, go_sem, r0, r1, r2, r3, r4]) rfl ?_
          have k9 := keep5 W4 b_BR (.int .i64 nx) (.slice fa n fc) (.bool true) (.int .u64 (k2 : Int)) (.int .i64 i2)
          exact rr_mk (HR.out.symm.trans (recv2_lock HU.out rfl)) HN.out rfl ((HV.out.keep k9 (fun b _ h1 h2 => by have := h1.2; omega)).mono (fun b _ h => .inl h.1)) (Bds.nil _ _) HV2
      · have HU := hid hu
        clear hu
        rw [HU.out] at BF
        by_cases hd1 : 128 ≤ d
        · have d1 : (128 : Int) ≤ d := by omega
          have d2 : decide ((128 : Int) ≤ d) = true := by simp; omega
          have d3 : decide (128 ≤ d) = true := by simp; omega
          have o_BF_2 : W4.cell? ⟨b_BF, 2, none⟩ = some ((.bool true)) := blk_cell BF.out 2
          go_upto_region 9 with fail
          clear o_BF_2
          have o_BR_0 : W4.cell? ⟨b_BR, 0, none⟩ = some ((.int .i64 0)) := blk_cell BR.out 0
          have o_BR_1 : W4.cell? ⟨b_BR, 1, none⟩ = some ((.slice none 0 0)) := blk_cell BR.out 1
          have o_BR_2 : W4.cell? ⟨b_BR, 2, none⟩ = some ((.bool false)) := blk_cell BR.out 2
          have o_BR_3 : W4.cell? ⟨b_BR, 3, none⟩ = some ((.int .u64 0)) := blk_cell BR.out 3
          have o_BR_4 : W4.cell? ⟨b_BR, 4, none⟩ = some ((.int .i64 0)) := blk_cell BR.out 4
          have f_BR_0 : W4.frozen? ⟨b_BR, 0, none⟩ = false := blk_free BR.out 0
          have f_BR_1 : W4.frozen? ⟨b_BR, 1, none⟩ = false := blk_free BR.out 1
          have f_BR_2 : W4.frozen? ⟨b_BR, 2, none⟩ = false := blk_free BR.out 2
          have f_BR_3 : W4.frozen? ⟨b_BR, 3, none⟩ = false := blk_free BR.out 3
          have f_BR_4 : W4.frozen? ⟨b_BR, 4, none⟩ = false := blk_free BR.out 4
          have o_BS_0 : W4.cell? ⟨w.heap.size, 0, none⟩ = some ((.int .i64 nx)) := blk_cell BS.out 0
          have o_BS_1 : W4.cell? ⟨w.heap.size, 1, none⟩ = some ((.slice fa n fc)) := blk_cell BS.out 1
          have o_BS_2 : W4.cell? ⟨w.heap.size, 2, none⟩ = some ((.bool lk)) := blk_cell BS.out 2
          have o_BS_3 : W4.cell? ⟨w.heap.size, 3, none⟩ = some ((.int .u64 (k2 : Int))) := blk_cell BS.out 3
          have o_BS_4 : W4.cell? ⟨w.heap.size, 4, none⟩ = some ((.int .i64 i2)) := blk_cell BS.out 4
          have o_B_K_0 : W4.cell? ⟨b_K, 0, none⟩ = some ((.int .u64 (k2 : Int))) := blk_cell B_K.out 0
          have o_B_K_1 : W4.cell? ⟨b_K, 1, none⟩ = some ((.int .i64 i2)) := blk_cell B_K.out 1
          go_wp2
          clear o_BR_0 o_BR_1 o_BR_2 o_BR_3 o_BR_4 f_BR_0 f_BR_1 f_BR_2 f_BR_3 f_BR_4 o_BS_0 o_BS_1 o_BS_2 o_BS_3 o_BS_4 o_B_K_0 o_B_K_1
          obtain ⟨HV2, B3⟩ := fin5 HK.out (show w.heap.size ≤ b_BR by omega) BR.out (.int .i64 nx) (.slice none 0 0) (.bool false) (.int .u64 (k2 : Int)) (.int .i64 i2)
          have r0 := blk_cell B3 0
          have r1 := blk_cell B3 1
          have r2 := blk_cell B3 2
          have r3 := blk_cell B3 3
          have r4 := blk_cell B3 4
          refine bodyPost_ret (v := .tuple #[.agg #[(.int .i64 nx), (.slice none 0 0), (.bool false), (.int .u64 (k2 : Int)), (.int .i64 i2)], .slice none 0 0, .int .i64 0]) (by simp [results, Tryd.results25, go_sem, r0, r1, r2, r3, r4]) rfl ?_
          have k9 := keep5 W4 b_BR (.int .i64 nx) (.slice none 0 0) (.bool false) (.int .u64 (k2 : Int)) (.int .i64 i2)
          exact rr_mk (HR.out.symm.trans (recv2_uold (r := ⟨nx, fs, lk, ⟨k, i⟩⟩) HU.out (by show 128 ≤ distM f.q nx; rw [HD.out]; omega))) rfl rfl (Frs.nil _ _) (Bds.nil _ _) HV2
        · have d1 : ¬ (128 : Int) ≤ d := by omega
          have d2 : decide ((128 : Int) ≤ d) = false := by simp; omega
          have d3 : decide (128 ≤ d) = false := by simp; omega
          have hwn : IntKind.i64.wrap (nx + (d : Int)) = nx + (d : Int) := IntWalk.i64_in _ (by omega)
          have o_BF_2 : W4.cell? ⟨b_BF, 2, none⟩ = some ((.bool true)) := blk_cell BF.out 2
          go_upto_region 11 with fail
          clear o_BF_2
          have o_BR_0 : W4.cell? ⟨b_BR, 0, none⟩ = some ((.int .i64 0)) := blk_cell BR.out 0
          have o_BR_1 : W4.cell? ⟨b_BR, 1, none⟩ = some ((.slice none 0 0)) := blk_cell BR.out 1
          have o_BR_2 : W4.cell? ⟨b_BR, 2, none⟩ = some ((.bool false)) := blk_cell BR.out 2
          have o_BR_3 : W4.cell? ⟨b_BR, 3, none⟩ = some ((.int .u64 0)) := blk_cell BR.out 3
          have o_BR_4 : W4.cell? ⟨b_BR, 4, none⟩ = some ((.int .i64 0)) := blk_cell BR.out 4
          have f_BR_0 : W4.frozen? ⟨b_BR, 0, none⟩ = false := blk_free BR.out 0
          have f_BR_1 : W4.frozen? ⟨b_BR, 1, none⟩ = false := blk_free BR.out 1
          have f_BR_2 : W4.frozen? ⟨b_BR, 2, none⟩ = false := blk_free BR.out 2
          have f_BR_3 : W4.frozen? ⟨b_BR, 3, none⟩ = false := blk_free BR.out 3
          have f_BR_4 : W4.frozen? ⟨b_BR, 4, none⟩ = false := blk_free BR.out 4
          have o_BS_0 : W4.cell? ⟨w.heap.size, 0, none⟩ = some ((.int .i64 nx)) := blk_cell BS.out 0
          have o_BS_1 : W4.cell? ⟨w.heap.size, 1, none⟩ = some ((.slice fa n fc)) := blk_cell BS.out 1
          have o_BS_2 : W4.cell? ⟨w.heap.size, 2, none⟩ = some ((.bool lk)) := blk_cell BS.out 2
          have o_BS_3 : W4.cell? ⟨w.heap.size, 3, none⟩ = some ((.int .u64 (k2 : Int))) := blk_cell BS.out 3
          have o_BS_4 : W4.cell? ⟨w.heap.size, 4, none⟩ = some ((.int .i64 i2)) := blk_cell BS.out 4
          have o_B_K_0 : W4.cell? ⟨b_K, 0, none⟩ = some ((.int .u64 (k2 : Int))) := blk_cell B_K.out 0
          have o_B_K_1 : W4.cell? ⟨b_K, 1, none⟩ = some ((.int .i64 i2)) := blk_cell B_K.out 1
          go_wp2
          clear o_BR_0 o_BR_1 o_BR_2 o_BR_3 o_BR_4 f_BR_0 f_BR_1 f_BR_2 f_BR_3 f_BR_4 o_BS_0 o_BS_1 o_BS_2 o_BS_3 o_BS_4 o_B_K_0 o_B_K_1
          obtain ⟨HV2, B3⟩ := fin5 HK.out (show w.heap.size ≤ b_BR by omega) BR.out (.int .i64 (nx + (d : Int))) (.slice none 0 0) (.bool false) (.int .u64 (k2 : Int)) (.int .i64 i2)
          have r0 := blk_cell B3 0
          have r1 := blk_cell B3 1
          have r2 := blk_cell B3 2
          have r3 := blk_cell B3 3
          have r4 := blk_cell B3 4
          refine bodyPost_ret (v := .tuple #[.agg #[(.int .i64 (nx + (d : Int))), (.slice none 0 0), (.bool false), (.int .u64 (k2 : Int)), (.int .i64 i2)], .slice none 0 0, .int .i64 0]) (by simp [results, Tryd.results25, go_sem, r0, r1, r2, r3, r4]) rfl ?_
          have k9 := keep5 W4 b_BR (.int .i64 (nx + (d : Int))) (.slice none 0 0) (.bool false) (.int .u64 (k2 : Int)) (.int .i64 i2)
          exact rr_mk (HR.out.symm.trans (by have h := recv2_unew (r := ⟨nx, fs, lk, ⟨k, i⟩⟩) (l := ⟨k2, i2⟩) HU.out (by show distM f.q nx < 128; rw [HD.out]; omega); simp only [HD.out] at h; exact h)) rfl rfl (Frs.nil _ _) (Bds.nil _ _) HV2
    · have e1 : (er != 0) = true := by simp; exact her
      have e2 : (er == 0) = false := by simp; exact her
      go_upto_region 5 with fail
      have o_BR_0 : W2.cell? ⟨b_BR, 0, none⟩ = some ((.int .i64 0)) := blk_cell BR.out 0
      have o_BR_1 : W2.cell? ⟨b_BR, 1, none⟩ = some ((.slice none 0 0)) := blk_cell BR.out 1
      have o_BR_2 : W2.cell? ⟨b_BR, 2, none⟩ = some ((.bool false)) := blk_cell BR.out 2
      have o_BR_3 : W2.cell? ⟨b_BR, 3, none⟩ = some ((.int .u64 0)) := blk_cell BR.out 3
      have o_BR_4 : W2.cell? ⟨b_BR, 4, none⟩ = some ((.int .i64 0)) := blk_cell BR.out 4
      have f_BR_0 : W2.frozen? ⟨b_BR, 0, none⟩ = false := blk_free BR.out 0
      have f_BR_1 : W2.frozen? ⟨b_BR, 1, none⟩ = false := blk_free BR.out 1
      have f_BR_2 : W2.frozen? ⟨b_BR, 2, none⟩ = false := blk_free BR.out 2
      have f_BR_3 : W2.frozen? ⟨b_BR, 3, none⟩ = false := blk_free BR.out 3
      have f_BR_4 : W2.frozen? ⟨b_BR, 4, none⟩ = false := blk_free BR.out 4
      have o_BS_0 : W2.cell? ⟨w.heap.size, 0, none⟩ = some ((.int .i64 nx)) := blk_cell BS.out 0
      have o_BS_1 : W2.cell? ⟨w.heap.size, 1, none⟩ = some ((.slice fa n fc)) := blk_cell BS.out 1
      have o_BS_2 : W2.cell? ⟨w.heap.size, 2, none⟩ = some ((.bool lk)) := blk_cell BS.out 2
      have o_BS_3 : W2.cell? ⟨w.heap.size, 3, none⟩ = some ((.int .u64 (k : Int))) := blk_cell BS.out 3
      have o_BS_4 : W2.cell? ⟨w.heap.size, 4, none⟩ = some ((.int .i64 i)) := blk_cell BS.out 4
      go_wp2
      clear o_BR_0 o_BR_1 o_BR_2 o_BR_3 o_BR_4 f_BR_0 f_BR_1 f_BR_2 f_BR_3 f_BR_4 o_BS_0 o_BS_1 o_BS_2 o_BS_3 o_BS_4
      obtain ⟨HV2, B3⟩ := fin5 HK.out (show w.heap.size ≤ b_BR by omega) BR.out (.int .i64 nx) (.slice fa n fc) (.bool lk) (.int .u64 (k : Int)) (.int .i64 i)
      have r0 := blk_cell B3 0
      have r1 := blk_cell B3 1
      have r2 := blk_cell B3 2
      have r3 := blk_cell B3 3
      have r4 := blk_cell B3 4
      refine bodyPost_ret (v := .tuple #[.agg #[(.int .i64 nx), (.slice fa n fc), (.bool lk), (.int .u64 (k : Int)), (.int .i64 i)], .slice none 0 0, .int .i64 er]) (by simp [results, Tryd.results25, go_sem, r0, r1, r2, r3, r4]) rfl ?_
      have k9 := keep5 W2 b_BR (.int .i64 nx) (.slice fa n fc) (.bool lk) (.int .u64 (k : Int)) (.int .i64 i)
      exact rr_mk (HR.out.symm.trans (recvM_bad (l := ⟨k2, i2⟩) (by rw [HM.out]; exact h512) (by show acceptL ⟨k, i⟩ f.k (covL f) f.t = _; rw [HEN.out]; exact HAC.out) her)) HN.out rfl ((HV.out.keep k9 (fun b _ h1 h2 => by have := h1.2; omega)).mono (fun b _ h => .inl h.1)) (Bds.nil _ _) HV2
end Go.Proofs.YthoikljmokkchaaDoor
