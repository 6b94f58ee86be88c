/- Frame: Receive. -/
import Derived.Test.YthoikljmokkchaaDoorFrRcv
import Derived.Deep.DrawnRows
namespace Go.Proofs.YthoikljmokkchaaDoor
open Go.RowKit
attribute [local go_sem ↓] Go.wp_at_zero Go.wp_at_succ
theorem recvR_mk {w w' : World} {K : Nat → Prop} {m : Rv × List (List Nat) × Int} {e : Ending} {nx' i' er : Int} {fs' : List Fr} {lk' : Bool} {k' : Nat} {bd : List (List Nat)} {n' bn c2 c3 : Nat} {a2 a3 : Option Addr} (M : m = (⟨nx', fs', lk', ⟨k', i'⟩⟩, bd, er)) (hn : fs'.length = n') (hbn : bd.length = bn)
    (he : e = .returned (.tuple #[.agg #[.int .i64 nx', .slice a2 n' c2, .bool lk', .int .u64 (k' : Int), .int .i64 i'], .slice a3 bn c3, .int .i64 er])) (h1 : Frs (fun b => K b ∨ w.heap.size ≤ b) w' (.slice a2 n' c2) fs') (h2 : Bds (fun b => w.heap.size ≤ b) w' (.slice a3 bn c3) bd) (h3 : Keeps (fun _ => False) w w') : RecvR w K m e w' := by
  subst M hn hbn; exact ⟨a2, c2, a3, c3, he, h1, h2, h3⟩
def ldB : Op := Op.load 22 (.tmp 110)
theorem ldB_eq : Op.load 22 (.tmp 110) = ldB := rfl
attribute [local go_sem] ldB
theorem sl_newR {Y w : World} {v : Value} {xs : List Value} (h : Sl (fun k => Y.heap.size ≤ k) w v xs) (B : Nat) (hB : B ≤ Y.heap.size) : B ≤ Y.heap.size ∧ ∀ X, Keeps (fun b => b < Y.heap.size ∨ w.heap.size ≤ b) w X → Sl (fun b => Y.heap.size ≤ b ∧ b < w.heap.size) X v xs :=
  ⟨hB, fun X hx => (h.mono (K' := fun b => Y.heap.size ≤ b ∧ b < w.heap.size) (fun b hb hh => ⟨hh, hb⟩)).keep hx (fun b _ h1 h2 => by omega)⟩
def ldR : Op := Op.load 22 (.tmp 30)
theorem ldR_eq : Op.load 22 (.tmp 30) = ldR := rfl
attribute [local go_sem] ldR
theorem frp_mono {KD K2 : Nat → Prop} {B : Nat} {w : World} {v : Value} {l : List Fr} (h : FrP KD B w v l) (hd : ∀ b, KD b → K2 b) : FrP K2 B w v l := by
  obtain ⟨xs, h1, h2, h3⟩ := h
  exact ⟨xs, h1, h2, h3.mono (fun b _ h => ⟨hd b h.1, h.2⟩)⟩
set_option maxRecDepth 100000 in
set_option maxHeartbeats 40000000 in
theorem Receive_any (nx : Int) (fs : List Fr) (fa : Option Addr) (fc : Nat) (lk : Bool) (l : Ld) (f : Fr) (K : Nat → Prop) (ba : Option Addr) (bc : Nat) (w : World) (hv : Frs K w (.slice fa fs.length fc) fs) (hK : ∀ b, K b → b < w.heap.size) (hs : Sl (fun _ => True) w (.slice ba f.b.length bc) (u8s f.b)) (B : Int) (hr : (⟨nx, fs, lk, l⟩ : Rv).ok B) (hB : B ≤ 1000000000) (hf : f.ok) :
    Calls Tryd.prog 24 #[.agg #[.int .i64 nx, .slice fa fs.length fc, .bool lk, .int .u64 (l.k : Int), .int .i64 l.i], .agg #[.int .i64 f.q, .int .i64 f.k, .bool f.u, .slice ba f.b.length bc, .int .u64 (f.t : Int)]] w fun e w' => RecvR w K (recvM ⟨nx, fs, lk, l⟩ f) e w' := by
  have HKW := hid hK
  have HV := hid hv
  have HB := hid (hs.mono (K' := fun b => b < w.heap.size) (fun b h _ => h))
  have HX : Hd (∀ x ∈ fs, x.b.length ≤ 512) := hid (fun x hx => (hr.f x hx).2.2.2)
  have hnx := hr.n0
  have hnx2 := hr.n1
  have hn := hr.len
  have HR := hid hr
  have HFO := hid hf
  clear hK hv hs hr hf
  simp only [] at hnx hnx2 hn
  obtain ⟨n, hnn⟩ : ∃ n, fs.length = n := ⟨_, rfl⟩
  have HN := hid hnn
  rw [hnn] at HV hn ⊢
  clear hnn
  obtain ⟨m, hmm⟩ : ∃ m, f.b.length = m := ⟨_, rfl⟩
  have HM := hid hmm
  rw [hmm] at HB  ⊢
  clear hmm
  obtain ⟨k, i⟩ := l
  simp only [] at *
  obtain ⟨MM, hMM⟩ : ∃ MM, recvM ⟨nx, fs, lk, ⟨k, i⟩⟩ f = MM := ⟨_, rfl⟩
  have HMM := hid hMM
  rw [hMM]
  clear hMM
  go_enter Tryd.func24, Tryd.ntmps24
  go_upto_region 1 with fail
  generalize hW : World.alloc (World.alloc (World.alloc w _) _) _ = W1
  have KS : Hd (Keeps (fun _ => False) w W1) := hid (by rw [← hW]; exact (Keeps.alloc (Keeps.alloc (Keeps.alloc (Keeps.refl (fun _ => False) w) _) _) _))
  have HV' : Hd (Frs K W1 (.slice fa n fc) fs) := hid (HV.out.keep KS.out (fun _ _ _ h => h))
  have HB' : Hd (Sl (fun b => b < w.heap.size) W1 (.slice ba m bc) (u8s f.b)) := hid (HB.out.keep KS.out (fun _ _ _ h => h))
  have BS : Hd (Blk W1 w.heap.size #[(.int .i64 nx), (.slice fa n fc), (.bool lk), (.int .u64 (k : Int)), (.int .i64 i)] 35) := hid (by rw [← hW]; exact (blk_alloc (blk_alloc (blk_new _ _ _) _) _))
  have BF : Hd (Blk W1 (w.heap.size + 1) #[(.int .i64 f.q), (.int .i64 f.k), (.bool f.u), (.slice ba m bc), (.int .u64 (f.t : Int))] 25) := hid (by rw [← hW]; exact (blk_alloc (blk_new' _ _ _ _ (by simp)) _))
  have BR : Hd (Blk W1 (w.heap.size + 1 + 1) #[(.int .i64 0), (.slice none 0 0), (.bool false), (.int .u64 0), (.int .i64 0)] 35) := hid (by rw [← hW]; exact (blk_new' _ _ _ _ (by simp)))
  clear HV HB
  have HV := HV'
  clear HV'
  have HB := HB'
  clear HB'
  have HK : Hd (Keeps (fun _ => False) w W1) := hid KS.out
  have z_W1 : w.heap.size + 3 ≤ W1.heap.size := by rw [← hW]; simp
  clear hW KS
  generalize hb_BR : w.heap.size + 1 + 1 = b_BR at *
  generalize hb_BF : w.heap.size + 1 = b_BF at *
  have lR : w.heap.size < b_BF ∧ b_BF < b_BR ∧ b_BR < W1.heap.size := by omega
  have o_BS_1 : W1.cell? ⟨w.heap.size, 1, none⟩ = some ((.slice fa n fc)) := blk_cell BS.out 1
  go_wp2_with fail
  refine (CloneFr_any K _ fs _ HV.out (by rw [HN.out]; omega)).mono ?_
  rw [HN.out]
  rintro e W2 ⟨a2, c2, rfl, hp, hk⟩
  have HP : Hd (FrP (fun b => K b ∨ W1.heap.size ≤ b) W1.heap.size _ (.slice a2 n c2) fs) := hid (frp_mono hp (fun b h => .inl h.1))
  clear hp
  clear o_BS_1
  have HV' : Hd (Frs K W2 (.slice fa n fc) fs) := hid (HV.out.keep hk (fun _ _ _ h => h))
  have HB' : Hd (Sl (fun b => b < w.heap.size) W2 (.slice ba m bc) (u8s f.b)) := hid (HB.out.keep hk (fun _ _ _ h => h))
  have BS' : Hd (Blk W2 w.heap.size #[(.int .i64 nx), (.slice fa n fc), (.bool lk), (.int .u64 (k : Int)), (.int .i64 i)] 35) := hid (blk_keep BS.out hk (fun h => h))
  have BF' : Hd (Blk W2 b_BF #[(.int .i64 f.q), (.int .i64 f.k), (.bool f.u), (.slice ba m bc), (.int .u64 (f.t : Int))] 25) := hid (blk_keep BF.out hk (fun h => h))
  have BR' : Hd (Blk W2 b_BR #[(.int .i64 0), (.slice none 0 0), (.bool false), (.int .u64 0), (.int .i64 0)] 35) := hid (blk_keep BR.out hk (fun h => h))
  clear HV HB BS BF BR
  have HV := HV'
  clear HV'
  have HB := HB'
  clear HB'
  have BS := BS'
  clear BS'
  have BF := BF'
  clear BF'
  have BR := BR'
  clear BR'
  have HK' : Hd (Keeps (fun _ => False) w W2) := hid (HK.out.trans hk)
  clear HK
  have HK := HK'
  clear HK'
  have z_W2 := hk.size
  clear hk
  clear HV
  have o_BS_1 : W2.cell? ⟨w.heap.size, 1, none⟩ = some ((.slice fa n fc)) := blk_cell BS.out 1
  have f_BS_1 : W2.frozen? ⟨w.heap.size, 1, none⟩ = false := blk_free BS.out 1
  go_upto_region 2 with fail
  clear o_BS_1 f_BS_1
  generalize hW : World.setCell W2 _ _ = W3
  have KS : Hd (Keeps (fun b => b = w.heap.size) W2 W3) := hid (by rw [← hW]; exact (Keeps.setCell (S := fun b => b = w.heap.size) (p := ⟨w.heap.size, 1, none⟩) (Keeps.refl (fun b => b = w.heap.size) W2) (.inl rfl) _))
  have HB' : Hd (Sl (fun b => b < w.heap.size) W3 (.slice ba m bc) (u8s f.b)) := hid (HB.out.keep KS.out (fun b _ h1 h2 => by omega))
  have BS' : Hd (Blk W3 w.heap.size #[(.int .i64 nx), (.slice a2 n c2), (.bool lk), (.int .u64 (k : Int)), (.int .i64 i)] 35) := hid (by rw [← hW]; exact (blk_set BS.out 1 _))
  have BF' : Hd (Blk W3 b_BF #[(.int .i64 f.q), (.int .i64 f.k), (.bool f.u), (.slice ba m bc), (.int .u64 (f.t : Int))] 25) := hid (by rw [← hW]; exact (blk_other BF.out (by omega) _ _))
  have BR' : Hd (Blk W3 b_BR #[(.int .i64 0), (.slice none 0 0), (.bool false), (.int .u64 0), (.int .i64 0)] 35) := hid (by rw [← hW]; exact (blk_other BR.out (by omega) _ _))
  have HP' : Hd (FrP (fun b => K b ∨ W1.heap.size ≤ b) W1.heap.size W3 (.slice a2 n c2) fs) := hid (HP.out.keep KS.out (fun b _ h1 h2 => by rcases h1 with (h1 | h1) | h1; (have := HKW.out b h1; omega); omega; omega))
  clear HB BS BF BR HP
  have HB := HB'
  clear HB'
  have BS := BS'
  clear BS'
  have BF := BF'
  clear BF'
  have BR := BR'
  clear BR'
  have HP := HP'
  clear HP'
  have HK' : Hd (Keeps (fun _ => False) w W3) := hid (HK.out.trans' KS.out (fun i hi h => by omega))
  clear HK
  have HK := HK'
  clear HK'
  have z_W3 : W2.heap.size + 0 ≤ W3.heap.size := by rw [← hW]; simp
  clear hW KS
  have o_BS_1 : W3.cell? ⟨w.heap.size, 1, none⟩ = some ((.slice a2 n c2)) := blk_cell BS.out 1
  go_wp2_with fail
  clear o_BS_1
  go_loopw [20] (fun iv wr => ∃ j : Nat, iv = .int .i64 (j : Int) ∧ j ≤ n ∧ Hd (FrP (fun b => K b ∨ W1.heap.size ≤ b) W1.heap.size wr (.slice a2 n c2) fs) ∧ Hd (Keeps (fun b => W1.heap.size ≤ b) W3 wr)) (fun iv _ => n - (intOf iv).toNat)
  case atStart => exact ⟨0, rfl, Nat.zero_le _, HP, hid (Keeps.refl _ _)⟩
  case round =>
    obtain ⟨V, rfl⟩ : ∃ V, V = wr := ⟨_, rfl⟩
    obtain ⟨j, rfl, hj, HPJ, HX2⟩ := hrel
    have zV := HX2.out.size
    clear HP
    have BS2 := hid (blk_keep BS.out HX2.out (fun h => by omega))
    have BF2 := hid (blk_keep BF.out HX2.out (fun h => by omega))
    have BR2 := hid (blk_keep BR.out HX2.out (fun h => by omega))
    have HB2 := hid (HB.out.keep HX2.out (fun b _ h1 h2 => by omega))
    have HK2 : Hd (Keeps (fun _ => False) w V) := hid (HK.out.trans' HX2.out (fun b hb h => by omega))
    clear BS BF BR HB HK
    have BS := BS2
    have BF := BF2
    have BR := BR2
    have HB := HB2
    have HK := HK2
    clear BS2 BF2 BR2 HB2 HK2
    by_cases hlt : j < n
    · have q1 : (j : Int) < n := by omega
      have q2 : (0 : Int) ≤ j := by omega
      have hjl : j < fs.length := by rw [HN.out]; exact hlt
      obtain ⟨x, hx⟩ : ∃ x, fs[j]? = some x := ⟨fs[j], List.getElem?_eq_getElem hjl⟩
      obtain ⟨g0, ea, hg1, hg2, hfz⟩ := frp_form HPJ.out (by omega)
      obtain ⟨bx, ox, eb, -, -, hc⟩ := frs_cells HPJ.out.sgs (by omega)
      rw [ea] at eb
      injection eb with eb
      injection eb with eb1 eb2
      subst eb1 eb2
      obtain ⟨-, -, -, -, ad, cd, hcell, hsx⟩ := hc j x hx
      rw [Nat.zero_add] at hcell
      subst ea
      have HXJ := hid hx
      have HSX := hid (hsx.mono (K' := fun _ => True) (fun _ _ _ => trivial))
      have hfz3 := hfz (j * 5 + 3)
      have HXL : Hd (x.b.length ≤ 512) := hid (HX.out x (List.mem_of_getElem? hx))
      have HLB := hid hg2
      clear hc hsx hx hfz hjl
      obtain ⟨xl, hxl⟩ : ∃ xl, x.b.length = xl := ⟨_, rfl⟩
      have HXLL := hid hxl
      rw [hxl] at hcell
      clear hxl
      have HCB : Hd (∀ X, Keeps (fun _ => False) V X → Calls Tryd.prog 66 #[.slice ad xl cd] X fun e w' => Wi.NewRet X 5 (u8s x.b) e w') := hid (fun X hx => by have h := Wi.CloneB_any _ _ x.b X (HSX.out.keep hx (fun _ _ _ h => h)) (by have := HXL.out; omega); rw [HXLL.out] at h; exact h)
      have HCELL := hid hcell; have HFZ := hid hfz3
      clear hcell hfz3
      have o1 : V.cell? ⟨w.heap.size, 1, none⟩ = some (.slice (some ⟨g0, 0, none⟩) n c2) := blk_cell BS.out 1
      go_upto_region 5 with fail
      clear o1
      have HSS : Hd (∀ w', Keeps (fun b => b = g0) V w' → (w'.cell? ⟨w.heap.size, 1, none⟩ = some (.slice (some ⟨g0, 0, none⟩) n c2))) := hid (fun w' hk => blk_cell (blk_keep BS.out hk (fun h => by omega)) 1)
      have KC : Hd (Keeps (fun b => b = g0) V V) := hid (Keeps.refl _ _)
      have hcell := HCELL.out
      rw [ldR_eq]
      go_region_held (fun w' => w'.cell? ⟨w.heap.size, 1, none⟩ = some (.slice (some ⟨g0, 0, none⟩) n c2)) (exact HSS.out _ (by repeat (first | (with_reducible exact KC.out) | (with_reducible exact Keeps.refl _ _) | (with_reducible apply Keeps.drewN) | (with_reducible apply Keeps.drew) | (with_reducible refine Keeps.setCell (S := fun b => b = g0) ?_ (.inl rfl) _))))
        (first
        | (go_at_call 66; (refine (HCB.out _ (by repeat (first | (with_reducible exact KC.out) | (with_reducible exact Keeps.refl _ _) | (with_reducible apply Keeps.drewN) | (with_reducible apply Keeps.drew) | (with_reducible apply Keeps.alloc)))).mono ?_); rintro e wy ⟨a4, n4, c4, rfl, hn4, ho4, hk⟩; have KC1 : Hd (Keeps (fun _ => False) V wy) := hid (Keeps.trans (S := fun _ => False) (by repeat (first | (with_reducible exact KC.out) | (with_reducible exact Keeps.refl _ _) | (with_reducible apply Keeps.drewN) | (with_reducible apply Keeps.drew) | (with_reducible apply Keeps.alloc))) hk); have KC2 : Hd (Keeps (fun b => b = g0) V wy) := hid (KC1.out.mono (fun _ _ h => h.elim)); have fz := keep_free KC1.out (fun h => h) HCELL.out HFZ.out; have kcell := keep_cell KC1.out (fun h => h) HCELL.out; clear KC; have KC := KC2; clear KC2; have HO4 := hid ho4; have HN4 := hid hn4; have HKX := hid hk; clear ho4 hn4 hk))
      go_wp2_with fail
      go_roundw
      case rel =>
        have z4 := KC1.out.size
        have HPY : FrP (fun b => K b ∨ W1.heap.size ≤ b) W1.heap.size wy (.slice (some ⟨g0, 0, none⟩) n c2) fs := HPJ.out.keep KC1.out (fun _ _ _ h => h)
        have HS4 : Sl (fun b => (K b ∨ W1.heap.size ≤ b) ∧ b ≠ g0) wy (.slice a4 n4 c4) (u8s x.b) := row_sl (HO4.out.row.mono (fun b _ h => have h' : V.heap.size ≤ b := (by first | exact h | simpa using h); have h2 := HLB.out; ⟨.inr (by omega), by omega⟩)) HN4.out.symm
        refine ⟨j + 1, by first | rfl | go_num, by omega, hid (HPY.set HN.out HXJ.out HS4), hid ?_⟩
        exact (HX2.out.trans' KC1.out (fun _ _ h => h.elim)).trans' ((Keeps.refl (fun b => b = g0) wy).setCell (p := ⟨g0, j * 5 + 3, none⟩) (.inl rfl) _) (fun b _ h => by omega)
      case measure => simp [intOf]; omega
    · have q1 : ¬ ((j : Int) < n) := by omega
      clear hlt hj HX2
      have HPF : Hd (Frs (fun b => K b ∨ w.heap.size ≤ b) V (.slice a2 n c2) fs) := hid (HPJ.out.sgs.mono (fun b _ h => by rcases h with (h | h) | h; exact .inl h; exact .inr (by omega); exact .inr (by omega)))
      have HPX : Hd (∀ b, (K b ∨ W1.heap.size ≤ b) → b ≠ w.heap.size ∧ b ≠ b_BF ∧ b ≠ b_BR) := hid (fun b h => by rcases h with h | h; (have := HKW.out b h; omega); omega)
      clear HPF
      by_cases hm : 512 < m
      · have q2 : (512 : Int) < m := by omega
        have o_BF_3 : V.cell? ⟨b_BF, 3, none⟩ = some ((.slice ba m bc)) := blk_cell BF.out 3
        have o_BS_0 : V.cell? ⟨w.heap.size, 0, none⟩ = some ((.int .i64 nx)) := blk_cell BS.out 0
        have o_BS_1 : V.cell? ⟨w.heap.size, 1, none⟩ = some ((.slice a2 n c2)) := blk_cell BS.out 1
        have o_BS_2 : V.cell? ⟨w.heap.size, 2, none⟩ = some ((.bool lk)) := blk_cell BS.out 2
        have o_BS_3 : V.cell? ⟨w.heap.size, 3, none⟩ = some ((.int .u64 (k : Int))) := blk_cell BS.out 3
        have o_BS_4 : V.cell? ⟨w.heap.size, 4, none⟩ = some ((.int .i64 i)) := blk_cell BS.out 4
        have o_BR_0 : V.cell? ⟨b_BR, 0, none⟩ = some ((.int .i64 0)) := blk_cell BR.out 0
        have o_BR_1 : V.cell? ⟨b_BR, 1, none⟩ = some ((.slice none 0 0)) := blk_cell BR.out 1
        have o_BR_2 : V.cell? ⟨b_BR, 2, none⟩ = some ((.bool false)) := blk_cell BR.out 2
        have o_BR_3 : V.cell? ⟨b_BR, 3, none⟩ = some ((.int .u64 0)) := blk_cell BR.out 3
        have o_BR_4 : V.cell? ⟨b_BR, 4, none⟩ = some ((.int .i64 0)) := blk_cell BR.out 4
        have f_BR_0 : V.frozen? ⟨b_BR, 0, none⟩ = false := blk_free BR.out 0
        have f_BR_1 : V.frozen? ⟨b_BR, 1, none⟩ = false := blk_free BR.out 1
        have f_BR_2 : V.frozen? ⟨b_BR, 2, none⟩ = false := blk_free BR.out 2
        have f_BR_3 : V.frozen? ⟨b_BR, 3, none⟩ = false := blk_free BR.out 3
        have f_BR_4 : V.frozen? ⟨b_BR, 4, none⟩ = false := blk_free BR.out 4
        go_wp2
        clear o_BF_3 o_BS_0 o_BS_1 o_BS_2 o_BS_3 o_BS_4 o_BR_0 o_BR_1 o_BR_2 o_BR_3 o_BR_4 f_BR_0 f_BR_1 f_BR_2 f_BR_3 f_BR_4
        obtain ⟨HV2, B3⟩ := fin5 HK.out (show w.heap.size ≤ b_BR by omega) BR.out (.int .i64 nx) (.slice a2 n c2) (.bool lk) (.int .u64 (k : Int)) (.int .i64 i)
        have r0 := blk_cell B3 0
        have r1 := blk_cell B3 1
        have r2 := blk_cell B3 2
        have r3 := blk_cell B3 3
        have r4 := blk_cell B3 4
        have k9 := keep5 V b_BR (.int .i64 nx) (.slice a2 n c2) (.bool lk) (.int .u64 (k : Int)) (.int .i64 i)
        refine bodyPost_ret (v := .tuple #[.agg #[(.int .i64 nx), (.slice a2 n c2), (.bool lk), (.int .u64 (k : Int)), (.int .i64 i)], .slice none 0 0, .int .i64 2]) (by simp [results, Tryd.results24, go_sem, r0, r1, r2, r3, r4]) rfl ?_
        refine recvR_mk (a2 := a2) (c2 := c2) (a3 := none) (c3 := 0) (n' := n) (bn := 0) (HMM.out.symm.trans (recvM_long (by rw [HM.out]; exact hm))) ?_ ?_ rfl ?_ ?_ HV2
        · exact HN.out
        · rfl
        · exact (HPJ.out.sgs.keep k9 (fun b _ h1 h2 => by have := HPX.out b (by rcases h1 with h1 | h1; exact h1; exact .inr h1); omega)).mono (fun b _ h => by rcases h with (h | h) | h; exact .inl h; exact .inr (by omega); exact .inr (by omega))
        · exact Bds.nil _ _
      · have q2 : ¬ ((512 : Int) < m) := by omega
        obtain ⟨en, hen⟩ : ∃ en, covL f = en := ⟨_, rfl⟩
        have HEN := hid hen
        have HEL : Hd (en.length ≤ 140737488355000) := hid (by rw [← hen]; have h1 := covL_len HFO.out; have := HFO.out.n; omega)
        have HET : Hd (∀ c ∈ en, c < 256) := hid (by rw [← hen]; exact covL_lt HFO.out)
        obtain ⟨⟨⟨k2, i2⟩, er⟩, hac⟩ : ∃ x, acceptL ⟨k, i⟩ f.k en f.t = x := ⟨_, rfl⟩
        have HAC := hid hac
        clear hen hac
        have o_BF_3 : V.cell? ⟨b_BF, 3, none⟩ = some ((.slice ba m bc)) := blk_cell BF.out 3
        go_upto_region 9 with fail
        clear o_BF_3
        have HCS : Hd (∀ X, Keeps (fun _ => False) V X → Calls Tryd.prog 14 #[.agg #[.int .i64 f.q, .int .i64 f.k, .bool f.u, .slice ba m bc, .int .u64 (f.t : Int)]] X fun e w' => Cr.NewRet X 5 (u8s en) e w') := hid (fun X hx => by have h := Signed_any f (fun b => b < w.heap.size) ba bc X HFO.out (by rw [HM.out]; exact HB.out.keep hx (fun _ _ _ h => h)); rw [HEN.out, HM.out] at h; exact h)
        have HCA : Hd (∀ X (v : Value) (K : Nat → Prop), Sl K X v (u8s en) → Calls Tryd.prog 67 #[.agg #[.int .u64 (k : Int), .int .i64 i], .int .i64 f.k, v, .int .u64 (f.t : Int)] X fun e w' => e = .returned (.tuple #[.agg #[.int .u64 (k2 : Int), .int .i64 i2], .int .i64 er]) ∧ Keeps (fun _ => False) X w') := hid (fun X v K hv => by have h := Accept_any ⟨k, i⟩ f.k f.t K v en X ⟨HR.out.k, HR.out.i0, by have := HR.out.i1; show i ≤ _; simp only [] at this; omega⟩ HFO.out.k0 HFO.out.k1 hv HET.out (Nat.le_trans HEL.out (by decide)); rw [HAC.out] at h; exact h)
        go_cut [9, 8] from 42 to 52 (fun u9 u8 wx => u9 = (.int .i64 er) ∧ ∃ bx, u8 = .pointer (some ⟨bx, 0, none⟩) ∧ V.heap.size ≤ bx ∧ Hd (Blk wx bx #[(.int .u64 (k2 : Int)), (.int .i64 i2)] 33) ∧ Hd (Keeps (fun _ => False) V wx))
        case first =>
          have KC : Hd (Keeps (fun _ => False) V V) := hid (Keeps.refl _ _)
          have HSS : Hd (∀ w', Keeps (fun _ => False) V w' → (w'.cell? ⟨w.heap.size, 3, none⟩ = some ((.int .u64 (k : Int))) ∧ w'.cell? ⟨w.heap.size, 4, none⟩ = some ((.int .i64 i)) ∧ w'.cell? ⟨b_BF, 0, none⟩ = some ((.int .i64 f.q)) ∧ w'.cell? ⟨b_BF, 1, none⟩ = some ((.int .i64 f.k)) ∧ w'.cell? ⟨b_BF, 2, none⟩ = some ((.bool f.u)) ∧ w'.cell? ⟨b_BF, 3, none⟩ = some ((.slice ba m bc)) ∧ w'.cell? ⟨b_BF, 4, none⟩ = some ((.int .u64 (f.t : Int))))) := hid (fun w' hk => ⟨blk_cell (blk_keep BS.out hk (fun h => h)) 3, blk_cell (blk_keep BS.out hk (fun h => h)) 4, blk_cell (blk_keep BF.out hk (fun h => h)) 0, blk_cell (blk_keep BF.out hk (fun h => h)) 1, blk_cell (blk_keep BF.out hk (fun h => h)) 2, blk_cell (blk_keep BF.out hk (fun h => h)) 3, blk_cell (blk_keep BF.out hk (fun h => h)) 4⟩)
          go_region_held (fun w' => w'.cell? ⟨w.heap.size, 3, none⟩ = some ((.int .u64 (k : Int))) ∧ w'.cell? ⟨w.heap.size, 4, none⟩ = some ((.int .i64 i)) ∧ w'.cell? ⟨b_BF, 0, none⟩ = some ((.int .i64 f.q)) ∧ w'.cell? ⟨b_BF, 1, none⟩ = some ((.int .i64 f.k)) ∧ w'.cell? ⟨b_BF, 2, none⟩ = some ((.bool f.u)) ∧ w'.cell? ⟨b_BF, 3, none⟩ = some ((.slice ba m bc)) ∧ w'.cell? ⟨b_BF, 4, none⟩ = some ((.int .u64 (f.t : Int)))) (exact HSS.out _ (by repeat (first | (with_reducible refine Keeps.setCell (S := fun _ => False) ?_ (.inl (by first | (with_reducible rfl) | (simp; done))) _) | (with_reducible apply Keeps.drewN) | (with_reducible apply Keeps.drew) | (with_reducible apply Keeps.alloc) | (refine Keeps.setCell (S := fun _ => False) ?_ (.inr (by first | exact Nat.le_refl _ | omega | (simp; omega))) _) | (with_reducible exact KC.out) | (with_reducible exact Keeps.refl _ _) | (with_reducible exact KC.out.mono (fun _ _ h => h.elim)))))
            (first
            | (go_at_call 14; (refine (HCS.out _ (by repeat (first | (with_reducible exact KC.out) | (with_reducible exact Keeps.refl _ _) | (with_reducible apply Keeps.drewN) | (with_reducible apply Keeps.drew) | (with_reducible apply Keeps.alloc)))).mono ?_); rintro e wy0 ⟨an, nn, cn, rfl, hnn, hon, hk⟩; (try (replace LNB := hid (Keeps.trans (S := fun _ => False) (by repeat (first | (with_reducible exact LNB.out) | (with_reducible exact Keeps.refl _ _) | (with_reducible apply Keeps.drewN) | (with_reducible apply Keeps.drew) | (with_reducible apply Keeps.alloc))) hk))); (first | (have HNBX := HNB; clear HNBX) | (have HNB : Hd (∀ Vz, Keeps (fun _ => False) wy0 Vz → Blk Vz V.heap.size #[(.int .u64 0), (.int .i64 0)] 33) := hid (fun Vz hv => blk_keep (blk_keep (by (repeat (first | (with_reducible apply blk_drewN) | (with_reducible apply blk_drew) | (with_reducible refine blk_new' _ _ _ _ ?_) | (with_reducible apply blk_alloc))); (first | (with_reducible rfl) | (simp only [World.size_alloc, World.size_drew]; done) | (simp; done))) hk (fun h => h)) hv (fun h => h)); have LNB : Hd (Keeps (fun _ => False) wy0 wy0) := hid (Keeps.refl _ _); have hnbx : V.heap.size ≤ V.heap.size := by first | exact Nat.le_refl _ | omega) | skip); (try (have nF0 := blk_cell (HNB.out _ LNB.out) 0; have nG0 := blk_free (HNB.out _ LNB.out) 0; have nF1 := blk_cell (HNB.out _ LNB.out) 1; have nG1 := blk_free (HNB.out _ LNB.out) 1)); have KC2 : Hd (Keeps (fun _ => False) V wy0) := hid (Keeps.trans (S := fun _ => False) (by repeat (first | (with_reducible exact KC.out) | (with_reducible exact Keeps.refl _ _) | (with_reducible apply Keeps.drewN) | (with_reducible apply Keeps.drew) | (with_reducible apply Keeps.alloc))) hk); have zc := KC.out.size; have zk := hk.size; (try simp at zk); have HSL : Hd (Sl (fun _ => True) wy0 (.slice an nn cn) (u8s en)) := hid ((row_sl hon.row hnn.symm).mono (fun _ _ _ => trivial)); have HSLX : Hd (∀ X, Keeps (fun _ => False) wy0 X → Sl (fun _ => True) X (.slice an nn cn) (u8s en)) := hid (fun X hx => HSL.out.keep hx (fun _ _ _ h => h)); clear hnn hon; replace KC := KC2; clear KC2; replace hk := hid hk)
            | (go_at_call 67; (refine (HCA.out _ _ _ (HSLX.out _ (by repeat (first | (with_reducible exact Keeps.refl _ _) | (with_reducible apply Keeps.drewN) | (with_reducible apply Keeps.drew) | (with_reducible apply Keeps.alloc))))).mono ?_); rintro e wy1 ⟨rfl, hk⟩; (try (replace LNB := hid (Keeps.trans (S := fun _ => False) (by repeat (first | (with_reducible exact LNB.out) | (with_reducible exact Keeps.refl _ _) | (with_reducible apply Keeps.drewN) | (with_reducible apply Keeps.drew) | (with_reducible apply Keeps.alloc))) hk))); (first | (have HNBX := HNB; clear HNBX) | (have HNB : Hd (∀ Vz, Keeps (fun _ => False) wy1 Vz → Blk Vz V.heap.size #[(.int .u64 0), (.int .i64 0)] 33) := hid (fun Vz hv => blk_keep (blk_keep (by (repeat (first | (with_reducible apply blk_drewN) | (with_reducible apply blk_drew) | (with_reducible refine blk_new' _ _ _ _ ?_) | (with_reducible apply blk_alloc))); (first | (with_reducible rfl) | (simp only [World.size_alloc, World.size_drew]; done) | (simp; done))) hk (fun h => h)) hv (fun h => h)); have LNB : Hd (Keeps (fun _ => False) wy1 wy1) := hid (Keeps.refl _ _); have hnbx : V.heap.size ≤ V.heap.size := by first | exact Nat.le_refl _ | omega) | (have HNB : Hd (∀ Vz, Keeps (fun _ => False) wy1 Vz → Blk Vz wy0.heap.size #[(.int .u64 0), (.int .i64 0)] 33) := hid (fun Vz hv => blk_keep (blk_keep (by (repeat (first | (with_reducible apply blk_drewN) | (with_reducible apply blk_drew) | (with_reducible refine blk_new' _ _ _ _ ?_) | (with_reducible apply blk_alloc))); (first | (with_reducible rfl) | (simp only [World.size_alloc, World.size_drew]; done) | (simp; done))) hk (fun h => h)) hv (fun h => h)); have LNB : Hd (Keeps (fun _ => False) wy1 wy1) := hid (Keeps.refl _ _); have hnbx : V.heap.size ≤ wy0.heap.size := by first | exact Nat.le_refl _ | omega) | skip); (try (have nF0 := blk_cell (HNB.out _ LNB.out) 0; have nG0 := blk_free (HNB.out _ LNB.out) 0; have nF1 := blk_cell (HNB.out _ LNB.out) 1; have nG1 := blk_free (HNB.out _ LNB.out) 1)); have KC2 : Hd (Keeps (fun _ => False) V wy1) := hid (Keeps.trans (S := fun _ => False) (by repeat (first | (with_reducible exact KC.out) | (with_reducible exact Keeps.refl _ _) | (with_reducible apply Keeps.drewN) | (with_reducible apply Keeps.drew) | (with_reducible apply Keeps.alloc))) hk); have zc := KC.out.size; have zk := hk.size; (try simp at zk); replace KC := KC2; clear KC2; replace hk := hid hk))
          all_goals
            go_wp2_with fail
            go_meet
            exact ⟨rfl, _, rfl, (by first | exact Nat.le_refl _ | omega | (simp; done) | (simp; omega)), hid (by repeat (first | (with_reducible exact HNB.out _ LNB.out) | (with_reducible refine blkset2 (c0 := (.int .u64 0)) (c1 := (.int .i64 0)) ?_) | (with_reducible refine blk_new' _ _ _ _ (by first | (with_reducible rfl) | (simp only [World.size_alloc, World.size_drew]; done) | (simp; done) | (simp; omega))) | (with_reducible refine blk_other ?_ (by first | omega | (simp only [World.size_alloc, World.size_drew]; omega)) _ _) | (with_reducible apply blk_drewN) | (with_reducible apply blk_drew) | (with_reducible refine blk_alloc ?_ _))), hid (by repeat (first | (with_reducible refine Keeps.setCell (S := fun _ => False) ?_ (.inl (by first | (with_reducible rfl) | (simp; done))) _) | (with_reducible apply Keeps.drewN) | (with_reducible apply Keeps.drew) | (with_reducible apply Keeps.alloc) | (refine Keeps.setCell (S := fun _ => False) ?_ (.inr (by first | exact Nat.le_refl _ | omega | (simp; omega))) _) | (with_reducible exact KC.out) | (with_reducible exact Keeps.refl _ _) | (with_reducible exact KC.out.mono (fun _ _ h => h.elim))))⟩
        case rest =>
          obtain ⟨rfl, b_L, rfl, hb_L, B_L, hk⟩ := hcut
          replace hk := hk.out
          generalize wc = W41 at *
          have HB' : Hd (Sl (fun b => b < w.heap.size) W41 (.slice ba m bc) (u8s f.b)) := hid (HB.out.keep hk (fun _ _ _ h => h))
          have BS' : Hd (Blk W41 w.heap.size #[(.int .i64 nx), (.slice a2 n c2), (.bool lk), (.int .u64 (k : Int)), (.int .i64 i)] 35) := hid (blk_keep BS.out hk (fun h => by exact h))
          have BF' : Hd (Blk W41 b_BF #[(.int .i64 f.q), (.int .i64 f.k), (.bool f.u), (.slice ba m bc), (.int .u64 (f.t : Int))] 25) := hid (blk_keep BF.out hk (fun h => by exact h))
          have BR' : Hd (Blk W41 b_BR #[(.int .i64 0), (.slice none 0 0), (.bool false), (.int .u64 0), (.int .i64 0)] 35) := hid (blk_keep BR.out hk (fun h => by exact h))
          have HPJ' : Hd (FrP (fun b => K b ∨ W1.heap.size ≤ b) W1.heap.size W41 (.slice a2 n c2) fs) := hid (HPJ.out.keep hk (fun _ _ _ h => h))
          clear HB BS BF BR HPJ
          have HB := HB'
          clear HB'
          have BS := BS'
          clear BS'
          have BF := BF'
          clear BF'
          have BR := BR'
          clear BR'
          have HPJ := HPJ'
          clear HPJ'
          have HK' : Hd (Keeps (fun _ => False) w W41) := hid (HK.out.trans hk)
          clear HK
          have HK := HK'
          clear HK'
          have z_W41 := hk.size
          clear hk
          have lt_L := blk_lt B_L.out
          by_cases her : er = 0
          · subst her
            have HGO : Hd (MM = recv2 ⟨nx, fs, lk, ⟨k, i⟩⟩ ⟨k2, i2⟩ f) := hid (HMM.out.symm.trans (recvM_go (by rw [HM.out]; exact hm) (by rw [HEN.out]; exact HAC.out)))
            clear HMM HAC HCS HCA HEL HET HEN
            have o_B_L_0 : W41.cell? ⟨b_L, 0, none⟩ = some ((.int .u64 (k2 : Int))) := blk_cell B_L.out 0
            have o_B_L_1 : W41.cell? ⟨b_L, 1, none⟩ = some ((.int .i64 i2)) := blk_cell B_L.out 1
            have o_BS_3 : W41.cell? ⟨w.heap.size, 3, none⟩ = some ((.int .u64 (k : Int))) := blk_cell BS.out 3
            have o_BS_4 : W41.cell? ⟨w.heap.size, 4, none⟩ = some ((.int .i64 i)) := blk_cell BS.out 4
            have f_BS_3 : W41.frozen? ⟨w.heap.size, 3, none⟩ = false := blk_free BS.out 3
            have f_BS_4 : W41.frozen? ⟨w.heap.size, 4, none⟩ = false := blk_free BS.out 4
            go_upto_region 13 with fail
            clear o_B_L_0 o_B_L_1 o_BS_3 o_BS_4 f_BS_3 f_BS_4
            generalize hW : World.setCell (World.setCell W41 _ _) _ _ = W42
            have KS : Hd (Keeps (fun b => b = w.heap.size) W41 W42) := hid (by rw [← hW]; exact (Keeps.setCell (S := fun b => b = w.heap.size) (p := ⟨w.heap.size, 4, none⟩) (Keeps.setCell (S := fun b => b = w.heap.size) (p := ⟨w.heap.size, 3, none⟩) (Keeps.refl (fun b => b = w.heap.size) W41) (.inl rfl) _) (.inl rfl) _))
            have HB' : Hd (Sl (fun b => b < w.heap.size) W42 (.slice ba m bc) (u8s f.b)) := hid (HB.out.keep KS.out (fun b _ h1 h2 => by omega))
            have BS' : Hd (Blk W42 w.heap.size #[(.int .i64 nx), (.slice a2 n c2), (.bool lk), (.int .u64 (k2 : Int)), (.int .i64 i2)] 35) := hid (by rw [← hW]; exact (blk_set (blk_set BS.out 3 _) 4 _))
            have BF' : Hd (Blk W42 b_BF #[(.int .i64 f.q), (.int .i64 f.k), (.bool f.u), (.slice ba m bc), (.int .u64 (f.t : Int))] 25) := hid (by rw [← hW]; exact (blk_other (blk_other BF.out (by omega) _ _) (by omega) _ _))
            have BR' : Hd (Blk W42 b_BR #[(.int .i64 0), (.slice none 0 0), (.bool false), (.int .u64 0), (.int .i64 0)] 35) := hid (by rw [← hW]; exact (blk_other (blk_other BR.out (by omega) _ _) (by omega) _ _))
            have HPJ' : Hd (FrP (fun b => K b ∨ W1.heap.size ≤ b) W1.heap.size W42 (.slice a2 n c2) fs) := hid (HPJ.out.keep KS.out (fun b _ h1 h2 => by have := HPX.out b (by rcases h1 with h1 | h1; exact h1; exact .inr h1); omega))
            have B_L' : Hd (Blk W42 b_L #[(.int .u64 (k2 : Int)), (.int .i64 i2)] 33) := hid (by rw [← hW]; exact (blk_other (blk_other B_L.out (by omega) _ _) (by omega) _ _))
            clear HB BS BF BR HPJ B_L
            have HB := HB'
            clear HB'
            have BS := BS'
            clear BS'
            have BF := BF'
            clear BF'
            have BR := BR'
            clear BR'
            have HPJ := HPJ'
            clear HPJ'
            have B_L := B_L'
            clear B_L'
            have HK' : Hd (Keeps (fun _ => False) w W42) := hid (HK.out.trans' KS.out (fun i hi h => by omega))
            clear HK
            have HK := HK'
            clear HK'
            have z_W42 : W41.heap.size + 0 ≤ W42.heap.size := by rw [← hW]; simp
            clear hW KS
            obtain ⟨qa, hqa⟩ : ∃ x, modN f.q = x := ⟨_, rfl⟩
            obtain ⟨qb, hqb⟩ : ∃ x, modN nx = x := ⟨_, rfl⟩
            obtain ⟨d, hd⟩ : ∃ x, distM f.q nx = x := ⟨_, rfl⟩
            have a1 : qa < 256 := by rw [← hqa]; exact modN_lt _
            have a2' : qb < 256 := by rw [← hqb]; exact modN_lt _
            have a3' : d < 256 := by rw [← hd]; exact distM_lt _ _
            have HR1 : Hd (∀ X, Calls Tryd.prog 68 #[.int .i64 f.q] X fun e w' => e = .returned (.int .i64 (qa : Int)) ∧ X = w') := hid (fun X => by have h := reduced_any f.q X HFO.out.q0 HFO.out.q1; rw [hqa] at h; exact h)
            have HR2 : Hd (∀ X, Calls Tryd.prog 68 #[.int .i64 nx] X fun e w' => e = .returned (.int .i64 (qb : Int)) ∧ X = w') := hid (fun X => by have h := reduced_any nx X (by omega) (by omega); rw [hqb] at h; exact h)
            have HR3 : Hd (∀ X, Calls Tryd.prog 68 #[.int .i64 ((qa : Int) - (qb : Int))] X fun e w' => e = .returned (.int .i64 (d : Int)) ∧ X = w') := hid (fun X => by have h := reduced_any ((qa : Int) - (qb : Int)) X (by omega) (by omega); have e : modN ((qa : Int) - (qb : Int)) = d := (by rw [← hd, ← hqa, ← hqb]; rfl); rw [e] at h; exact h)
            have HD := hid hd
            clear hqa hqb hd
            have e0 : ∀ y : Ext W42, y.w.cell? ⟨b_BF, 0, none⟩ = some _ := ext_bcell BF.out 0 rfl
            have e1 : ∀ y : Ext W42, y.w.cell? ⟨w.heap.size, 0, none⟩ = some _ := ext_bcell BS.out 0 rfl
            have hw1 : IntKind.i64.wrap ((qa : Int) - (qb : Int)) = (qa : Int) - (qb : Int) := IntWalk.i64_in _ (by omega)
            refine wp_region_ext (by kernel_rfl) (by kernel_rfl) ?_
            repeat (go_big_quiet_step (first | (go_at_call 68; first | exact ext_same (HR1.out _) | exact ext_same (HR2.out _) | exact ext_same (HR3.out _))))
            refine wpQuiet_nil ?_
            rintro _ ⟨y, rfl⟩
            clear e0 e1 hw1 HR1 HR2 HR3
            have hk := y.k
            generalize y.w = W50 at *
            have HB' : Hd (Sl (fun b => b < w.heap.size) W50 (.slice ba m bc) (u8s f.b)) := hid (HB.out.keep hk (fun _ _ _ h => h))
            have BS' : Hd (Blk W50 w.heap.size #[(.int .i64 nx), (.slice a2 n c2), (.bool lk), (.int .u64 (k2 : Int)), (.int .i64 i2)] 35) := hid (blk_keep BS.out hk (fun h => h))
            have BF' : Hd (Blk W50 b_BF #[(.int .i64 f.q), (.int .i64 f.k), (.bool f.u), (.slice ba m bc), (.int .u64 (f.t : Int))] 25) := hid (blk_keep BF.out hk (fun h => h))
            have BR' : Hd (Blk W50 b_BR #[(.int .i64 0), (.slice none 0 0), (.bool false), (.int .u64 0), (.int .i64 0)] 35) := hid (blk_keep BR.out hk (fun h => h))
            have HPJ' : Hd (FrP (fun b => K b ∨ W1.heap.size ≤ b) W1.heap.size W50 (.slice a2 n c2) fs) := hid (HPJ.out.keep hk (fun _ _ _ h => h))
            have B_L' : Hd (Blk W50 b_L #[(.int .u64 (k2 : Int)), (.int .i64 i2)] 33) := hid (blk_keep B_L.out hk (fun h => h))
            clear HB BS BF BR HPJ B_L
            have HB := HB'
            clear HB'
            have BS := BS'
            clear BS'
            have BF := BF'
            clear BF'
            have BR := BR'
            clear BR'
            have HPJ := HPJ'
            clear HPJ'
            have B_L := B_L'
            clear B_L'
            have HK' : Hd (Keeps (fun _ => False) w W50) := hid (HK.out.trans hk)
            clear HK
            have HK := HK'
            clear HK'
            have z_W50 := hk.size
            clear hk
            obtain ⟨u, hu⟩ : ∃ u, f.u = u := ⟨_, rfl⟩
            have HU := hid hu
            rw [hu] at BF
            clear hu
            cases u
            · cases lk
              · by_cases hd0 : d = 0
                · have HDZ := hid hd0
                  have d0 : ((d : Int) == 0) = true := by simp; omega
                  obtain ⟨J, hJ⟩ : ∃ J, dlvN (nx + 1) fs = J := ⟨_, rfl⟩
                  have HJ := hid hJ
                  have hJn : J ≤ n := by rw [← hJ, ← HN.out]; exact dlvN_le _ _
                  clear hJ
                  have HCD : Hd (Calls Tryd.prog 69 #[.agg #[.int .i64 nx, .slice a2 n c2, .bool false, .int .u64 (k2 : Int), .int .i64 i2], .slice ba m bc] W50 fun e w' => DelR W50 (fun b => (K b ∨ W1.heap.size ≤ b) ∧ b < W50.heap.size) nx fs false ⟨k2, i2⟩ f.b J e w') := hid (by
                    have h := deliver_any nx fs a2 c2 false ⟨k2, i2⟩ f.b (fun b => (K b ∨ W1.heap.size ≤ b) ∧ b < W50.heap.size) ba bc W50 (by rw [HN.out]; exact HPJ.out.sgs.mono (fun b h1 h2 => by rcases h2 with h2 | h2; exact ⟨h2, h1⟩; exact ⟨.inr h2, h1⟩)) (fun b h => h.2) (by rw [HM.out]; exact HB.out.mono (fun _ _ _ => trivial)) (by rw [HN.out]; omega) hnx (by omega) HX.out (by rw [HM.out]; omega)
                    rw [HN.out, HM.out, HJ.out] at h; exact h)
                  have o_BF_2 : W50.cell? ⟨b_BF, 2, none⟩ = some ((.bool false)) := blk_cell BF.out 2
                  have o_BF_3 : W50.cell? ⟨b_BF, 3, none⟩ = some ((.slice ba m bc)) := blk_cell BF.out 3
                  have o_BS_0 : W50.cell? ⟨w.heap.size, 0, none⟩ = some ((.int .i64 nx)) := blk_cell BS.out 0
                  have o_BS_1 : W50.cell? ⟨w.heap.size, 1, none⟩ = some ((.slice a2 n c2)) := blk_cell BS.out 1
                  have o_BS_2 : W50.cell? ⟨w.heap.size, 2, none⟩ = some ((.bool false)) := blk_cell BS.out 2
                  have o_BS_3 : W50.cell? ⟨w.heap.size, 3, none⟩ = some ((.int .u64 (k2 : Int))) := blk_cell BS.out 3
                  have o_BS_4 : W50.cell? ⟨w.heap.size, 4, none⟩ = some ((.int .i64 i2)) := blk_cell BS.out 4
                  go_wp2_with fail
                  refine (HCD.out).mono ?_
                  rintro e V9 ⟨a5, c5, a6, c6, rfl, hfr, hbd, hk⟩
                  have HFR := hid hfr; have HBD := hid hbd
                  clear hfr hbd HCD
                  obtain ⟨r5, hr5⟩ : ∃ r, (fs.drop J).length = r := ⟨_, rfl⟩
                  have HR5 := hid hr5
                  rw [hr5] at HFR ⊢
                  clear hr5
                  clear o_BF_2 o_BF_3 o_BS_0 o_BS_1 o_BS_2 o_BS_3 o_BS_4
                  have HB' : Hd (Sl (fun b => b < w.heap.size) V9 (.slice ba m bc) (u8s f.b)) := hid (HB.out.keep hk (fun _ _ _ h => h))
                  have BS' : Hd (Blk V9 w.heap.size #[(.int .i64 nx), (.slice a2 n c2), (.bool false), (.int .u64 (k2 : Int)), (.int .i64 i2)] 35) := hid (blk_keep BS.out hk (fun h => h))
                  have BF' : Hd (Blk V9 b_BF #[(.int .i64 f.q), (.int .i64 f.k), (.bool false), (.slice ba m bc), (.int .u64 (f.t : Int))] 25) := hid (blk_keep BF.out hk (fun h => h))
                  have BR' : Hd (Blk V9 b_BR #[(.int .i64 0), (.slice none 0 0), (.bool false), (.int .u64 0), (.int .i64 0)] 35) := hid (blk_keep BR.out hk (fun h => h))
                  have HPJ' : Hd (FrP (fun b => K b ∨ W1.heap.size ≤ b) W1.heap.size V9 (.slice a2 n c2) fs) := hid (HPJ.out.keep hk (fun _ _ _ h => h))
                  have B_L' : Hd (Blk V9 b_L #[(.int .u64 (k2 : Int)), (.int .i64 i2)] 33) := hid (blk_keep B_L.out hk (fun h => h))
                  clear HB BS BF BR HPJ B_L
                  have HB := HB'
                  clear HB'
                  have BS := BS'
                  clear BS'
                  have BF := BF'
                  clear BF'
                  have BR := BR'
                  clear BR'
                  have HPJ := HPJ'
                  clear HPJ'
                  have B_L := B_L'
                  clear B_L'
                  have HK' : Hd (Keeps (fun _ => False) w V9) := hid (HK.out.trans hk)
                  clear HK
                  have HK := HK'
                  clear HK'
                  have z_V9 := hk.size
                  clear hk
                  go_upto_region 22 with fail
                  generalize hW : World.alloc V9 _ = W61
                  have KS : Hd (Keeps (fun _ => False) V9 W61) := hid (by rw [← hW]; exact (Keeps.alloc (Keeps.refl (fun _ => False) V9) _))
                  have HB' : Hd (Sl (fun b => b < w.heap.size) W61 (.slice ba m bc) (u8s f.b)) := hid (HB.out.keep KS.out (fun _ _ _ h => h))
                  have BS' : Hd (Blk W61 w.heap.size #[(.int .i64 nx), (.slice a2 n c2), (.bool false), (.int .u64 (k2 : Int)), (.int .i64 i2)] 35) := hid (by rw [← hW]; exact (blk_alloc BS.out _))
                  have BF' : Hd (Blk W61 b_BF #[(.int .i64 f.q), (.int .i64 f.k), (.bool false), (.slice ba m bc), (.int .u64 (f.t : Int))] 25) := hid (by rw [← hW]; exact (blk_alloc BF.out _))
                  have BR' : Hd (Blk W61 b_BR #[(.int .i64 0), (.slice none 0 0), (.bool false), (.int .u64 0), (.int .i64 0)] 35) := hid (by rw [← hW]; exact (blk_alloc BR.out _))
                  have HPJ' : Hd (FrP (fun b => K b ∨ W1.heap.size ≤ b) W1.heap.size W61 (.slice a2 n c2) fs) := hid (HPJ.out.keep KS.out (fun _ _ _ h => h))
                  have B_L' : Hd (Blk W61 b_L #[(.int .u64 (k2 : Int)), (.int .i64 i2)] 33) := hid (by rw [← hW]; exact (blk_alloc B_L.out _))
                  have HFR' : Hd (Frs (fun b => ((K b ∨ W1.heap.size ≤ b) ∧ b < W50.heap.size) ∨ W50.heap.size ≤ b) W61 (.slice a5 r5 c5) (fs.drop J)) := hid (HFR.out.keep KS.out (fun _ _ _ h => h))
                  have HBD' : Hd (Bds (fun b => W50.heap.size ≤ b) W61 (.slice a6 (J + 1) c6) (f.b :: (fs.take J).map (·.b))) := hid (HBD.out.keep KS.out (fun _ _ _ h => h))
                  have BT : Hd (Blk W61 V9.heap.size #[(.int .i64 (nx + 1 + (J : Int))), (.slice a5 r5 c5), (.bool false), (.int .u64 (k2 : Int)), (.int .i64 i2)] 35) := hid (by rw [← hW]; exact (blk_new _ _ _))
                  clear HB BS BF BR HPJ B_L HFR HBD
                  have HB := HB'
                  clear HB'
                  have BS := BS'
                  clear BS'
                  have BF := BF'
                  clear BF'
                  have BR := BR'
                  clear BR'
                  have HPJ := HPJ'
                  clear HPJ'
                  have B_L := B_L'
                  clear B_L'
                  have HFR := HFR'
                  clear HFR'
                  have HBD := HBD'
                  clear HBD'
                  have HK' : Hd (Keeps (fun _ => False) w W61) := hid (HK.out.trans KS.out)
                  clear HK
                  have HK := HK'
                  clear HK'
                  have z_W61 : V9.heap.size + 1 ≤ W61.heap.size := by rw [← hW]; simp
                  clear hW KS
                  have o_BT_0 : W61.cell? ⟨V9.heap.size, 0, none⟩ = some ((.int .i64 (nx + 1 + (J : Int)))) := blk_cell BT.out 0
                  have o_BT_1 : W61.cell? ⟨V9.heap.size, 1, none⟩ = some ((.slice a5 r5 c5)) := blk_cell BT.out 1
                  have o_BT_2 : W61.cell? ⟨V9.heap.size, 2, none⟩ = some ((.bool false)) := blk_cell BT.out 2
                  have o_BT_3 : W61.cell? ⟨V9.heap.size, 3, none⟩ = some ((.int .u64 (k2 : Int))) := blk_cell BT.out 3
                  have o_BT_4 : W61.cell? ⟨V9.heap.size, 4, none⟩ = some ((.int .i64 i2)) := blk_cell BT.out 4
                  have o_BR_0 : W61.cell? ⟨b_BR, 0, none⟩ = some ((.int .i64 0)) := blk_cell BR.out 0
                  have o_BR_1 : W61.cell? ⟨b_BR, 1, none⟩ = some ((.slice none 0 0)) := blk_cell BR.out 1
                  have o_BR_2 : W61.cell? ⟨b_BR, 2, none⟩ = some ((.bool false)) := blk_cell BR.out 2
                  have o_BR_3 : W61.cell? ⟨b_BR, 3, none⟩ = some ((.int .u64 0)) := blk_cell BR.out 3
                  have o_BR_4 : W61.cell? ⟨b_BR, 4, none⟩ = some ((.int .i64 0)) := blk_cell BR.out 4
                  have f_BR_0 : W61.frozen? ⟨b_BR, 0, none⟩ = false := blk_free BR.out 0
                  have f_BR_1 : W61.frozen? ⟨b_BR, 1, none⟩ = false := blk_free BR.out 1
                  have f_BR_2 : W61.frozen? ⟨b_BR, 2, none⟩ = false := blk_free BR.out 2
                  have f_BR_3 : W61.frozen? ⟨b_BR, 3, none⟩ = false := blk_free BR.out 3
                  have f_BR_4 : W61.frozen? ⟨b_BR, 4, none⟩ = false := blk_free BR.out 4
                  go_wp2
                  clear o_BT_0 o_BT_1 o_BT_2 o_BT_3 o_BT_4 o_BR_0 o_BR_1 o_BR_2 o_BR_3 o_BR_4 f_BR_0 f_BR_1 f_BR_2 f_BR_3 f_BR_4
                  obtain ⟨HV2, B3⟩ := fin5 HK.out (show w.heap.size ≤ b_BR by omega) BR.out (.int .i64 (nx + 1 + (J : Int))) (.slice a5 r5 c5) (.bool false) (.int .u64 (k2 : Int)) (.int .i64 i2)
                  have r0 := blk_cell B3 0
                  have r1 := blk_cell B3 1
                  have r2 := blk_cell B3 2
                  have r3 := blk_cell B3 3
                  have r4 := blk_cell B3 4
                  have k9 := keep5 W61 b_BR (.int .i64 (nx + 1 + (J : Int))) (.slice a5 r5 c5) (.bool false) (.int .u64 (k2 : Int)) (.int .i64 i2)
                  refine bodyPost_ret (v := .tuple #[.agg #[(.int .i64 (nx + 1 + (J : Int))), (.slice a5 r5 c5), (.bool false), (.int .u64 (k2 : Int)), (.int .i64 i2)], .slice a6 (J + 1) c6, .int .i64 0]) (by simp [results, Tryd.results24, go_sem, r0, r1, r2, r3, r4]) rfl ?_
                  refine recvR_mk (a2 := a5) (c2 := c5) (a3 := a6) (c3 := c6) (n' := r5) (bn := J + 1) ((by rw [HGO.out, recv2_del HU.out rfl (by show distM f.q nx = 0; rw [HD.out]; exact HDZ.out)]; unfold delivM; simp only [HJ.out]; rfl)) ?_ ?_ rfl ?_ ?_ HV2
                  · exact HR5.out
                  · rw [List.length_cons, List.length_map, List.length_take, HN.out]; omega
                  · exact (HFR.out.keep k9 (fun b _ h1 h2 => by rcases h1 with h1 | h1; (have := HPX.out b h1.1; omega); omega)).mono (fun b _ h => by rcases h with h | h; (rcases h.1 with h2 | h2; exact .inl h2; exact .inr (by omega)); exact .inr (by omega))
                  · exact (HBD.out.keep k9 (fun b _ h1 h2 => by omega)).mono (fun b _ h => by omega)
                · have HDZ := hid hd0
                  have d0 : ((d : Int) == 0) = false := by simp; omega
                  clear hd0
                  by_cases hd1 : d < 16
                  · have d1 : (d : Int) < 16 := by omega
                    have hw3 : IntKind.i64.wrap (nx + (d : Int)) = nx + (d : Int) := IntWalk.i64_in _ (by omega)
                    have o_BF_2 : W50.cell? ⟨b_BF, 2, none⟩ = some ((.bool false)) := blk_cell BF.out 2
                    have o_BS_2 : W50.cell? ⟨w.heap.size, 2, none⟩ = some ((.bool false)) := blk_cell BS.out 2
                    go_upto_region 24 with fail
                    clear o_BF_2 o_BS_2
                    have HSS : Hd (∀ w', Keeps (fun b => b = b_BF) W50 w' → (w'.cell? ⟨w.heap.size, 0, none⟩ = some (.int .i64 nx))) := hid (fun w' hk => blk_cell (blk_keep BS.out hk (fun h => by omega)) 0)
                    have HCB : Hd (∀ X, Keeps (fun b => b = b_BF) W50 X → Calls Tryd.prog 66 #[.slice ba m bc] X fun e w' => Wi.NewRet X 5 (u8s f.b) e w') := hid (fun X hx => Wi.CloneB_any _ _ f.b X (HB.out.keep hx (fun b _ h1 h2 => by omega)) (by rw [HM.out]; omega))
                    rw [ldB_eq]
                    go_cut [] from 106 to 114 (fun wx => ∃ (a8 : Option Addr) (c8 : Nat), Hd (Blk wx b_BF #[(.int .i64 (nx + (d : Int))), (.int .i64 f.k), (.bool false), (.slice a8 m c8), (.int .u64 (f.t : Int))] 25) ∧ Hd (Sl (fun b => W50.heap.size ≤ b) wx (.slice a8 m c8) (u8s f.b)) ∧ Hd (Keeps (fun b => b = b_BF) W50 wx))
                    case first =>
                      have KC : Hd (Keeps (fun b => b = b_BF) W50 W50) := hid (Keeps.refl _ _)
                      have L30 : ∀ (X : World) (a8 : Option Addr) (c8 : Nat), Blk X b_BF #[(.int .i64 f.q), (.int .i64 f.k), (.bool false), (.slice ba m bc), (.int .u64 (f.t : Int))] 25 → Blk ((X.setCell ⟨b_BF, 3, none⟩ (.slice a8 m c8)).setCell ⟨b_BF, 0, none⟩ (.int .i64 (nx + (d : Int)))) b_BF #[(.int .i64 (nx + (d : Int))), (.int .i64 f.k), (.bool false), (.slice a8 m c8), (.int .u64 (f.t : Int))] 25 := fun X a8 c8 h => blk_set (blk_set h 3 _) 0 _
                      have L03 : ∀ (X : World) (a8 : Option Addr) (c8 : Nat), Blk X b_BF #[(.int .i64 f.q), (.int .i64 f.k), (.bool false), (.slice ba m bc), (.int .u64 (f.t : Int))] 25 → Blk ((X.setCell ⟨b_BF, 0, none⟩ (.int .i64 (nx + (d : Int)))).setCell ⟨b_BF, 3, none⟩ (.slice a8 m c8)) b_BF #[(.int .i64 (nx + (d : Int))), (.int .i64 f.k), (.bool false), (.slice a8 m c8), (.int .u64 (f.t : Int))] 25 := fun X a8 c8 h => blk_set (blk_set h 0 _) 3 _
                      have L3 : ∀ (X : World) (a8 : Option Addr) (c8 : Nat), Blk X b_BF #[(.int .i64 (nx + (d : Int))), (.int .i64 f.k), (.bool false), (.slice ba m bc), (.int .u64 (f.t : Int))] 25 → Blk (X.setCell ⟨b_BF, 3, none⟩ (.slice a8 m c8)) b_BF #[(.int .i64 (nx + (d : Int))), (.int .i64 f.k), (.bool false), (.slice a8 m c8), (.int .u64 (f.t : Int))] 25 := fun X a8 c8 h => blk_set h 3 _
                      have o_BF_0 : W50.cell? ⟨b_BF, 0, none⟩ = some ((.int .i64 f.q)) := blk_cell BF.out 0
                      have o_BF_1 : W50.cell? ⟨b_BF, 1, none⟩ = some ((.int .i64 f.k)) := blk_cell BF.out 1
                      have o_BF_2 : W50.cell? ⟨b_BF, 2, none⟩ = some ((.bool false)) := blk_cell BF.out 2
                      have o_BF_3 : W50.cell? ⟨b_BF, 3, none⟩ = some ((.slice ba m bc)) := blk_cell BF.out 3
                      have o_BF_4 : W50.cell? ⟨b_BF, 4, none⟩ = some ((.int .u64 (f.t : Int))) := blk_cell BF.out 4
                      have f_BF_0 : W50.frozen? ⟨b_BF, 0, none⟩ = false := blk_free BF.out 0
                      have f_BF_1 : W50.frozen? ⟨b_BF, 1, none⟩ = false := blk_free BF.out 1
                      have f_BF_2 : W50.frozen? ⟨b_BF, 2, none⟩ = false := blk_free BF.out 2
                      have f_BF_3 : W50.frozen? ⟨b_BF, 3, none⟩ = false := blk_free BF.out 3
                      have f_BF_4 : W50.frozen? ⟨b_BF, 4, none⟩ = false := blk_free BF.out 4
                      go_region_held (fun w' => w'.cell? ⟨w.heap.size, 0, none⟩ = some (.int .i64 nx)) ((refine HSS.out _ ?_; (repeat (first | (with_reducible exact KC.out) | (with_reducible exact Keeps.refl _ _) | (with_reducible apply Keeps.drewN) | (with_reducible apply Keeps.drew) | (with_reducible refine Keeps.setCell (S := fun b => b = b_BF) ?_ (.inl rfl) _)))))
                        (first
                        | (go_at_call 66; (refine (HCB.out _ (by (repeat (first | (with_reducible exact KC.out) | (with_reducible exact Keeps.refl _ _) | (with_reducible apply Keeps.drewN) | (with_reducible apply Keeps.drew) | (with_reducible refine Keeps.setCell (S := fun b => b = b_BF) ?_ (.inl rfl) _))); done)).mono ?_); rintro e wy ⟨a8, n8, c8, rfl, hn8, ho8, hk⟩; obtain rfl : m = n8 := (by rw [hn8, u8s_length, HM.out]); have KC2 : Hd (Keeps (fun b => b = b_BF) W50 wy) := hid (Keeps.trans (S := fun b => b = b_BF) (by (repeat (first | (with_reducible exact KC.out) | (with_reducible exact Keeps.refl _ _) | (with_reducible apply Keeps.drewN) | (with_reducible apply Keeps.drew) | (with_reducible refine Keeps.setCell (S := fun b => b = b_BF) ?_ (.inl rfl) _))); done) (hk.mono (fun _ _ h => h.elim))); have HS8 := hid (sl_newR (row_sl ho8.row (by rw [u8s_length, HM.out])) W50.heap.size (by first | exact Nat.le_refl _ | (simp; done) | (simp; omega) | exact Keeps.size (S := fun b => b = b_BF) (w := W50) (by (repeat (first | (with_reducible exact KC.out) | (with_reducible exact Keeps.refl _ _) | (with_reducible apply Keeps.drewN) | (with_reducible apply Keeps.drew) | (with_reducible refine Keeps.setCell (S := fun b => b = b_BF) ?_ (.inl rfl) _))); done))); clear KC; have KC := KC2; clear KC2; clear hn8 ho8; (first | (have BFy : Hd (Blk wy b_BF #[(.int .i64 f.q), (.int .i64 f.k), (.bool false), (.slice ba m bc), (.int .u64 (f.t : Int))] 25) := hid (blk_keep (by (repeat (first | (with_reducible exact BF.out) | (with_reducible apply blk_drew) | (with_reducible apply blk_drewN))); done) hk (fun h => h)); have y0 : wy.cell? ⟨b_BF, 0, none⟩ = some ((.int .i64 f.q)) := blk_cell BFy.out 0; have z0 : wy.frozen? ⟨b_BF, 0, none⟩ = false := blk_free BFy.out 0; have y1 : wy.cell? ⟨b_BF, 1, none⟩ = some ((.int .i64 f.k)) := blk_cell BFy.out 1; have z1 : wy.frozen? ⟨b_BF, 1, none⟩ = false := blk_free BFy.out 1; have y2 : wy.cell? ⟨b_BF, 2, none⟩ = some ((.bool false)) := blk_cell BFy.out 2; have z2 : wy.frozen? ⟨b_BF, 2, none⟩ = false := blk_free BFy.out 2; have y3 : wy.cell? ⟨b_BF, 3, none⟩ = some ((.slice ba m bc)) := blk_cell BFy.out 3; have z3 : wy.frozen? ⟨b_BF, 3, none⟩ = false := blk_free BFy.out 3; have y4 : wy.cell? ⟨b_BF, 4, none⟩ = some ((.int .u64 (f.t : Int))) := blk_cell BFy.out 4; have z4 : wy.frozen? ⟨b_BF, 4, none⟩ = false := blk_free BFy.out 4;  clear hk) | (have BFy : Hd (Blk wy b_BF #[(.int .i64 (nx + (d : Int))), (.int .i64 f.k), (.bool false), (.slice ba m bc), (.int .u64 (f.t : Int))] 25) := hid (blk_keep (by (repeat (first | (with_reducible apply blk_drew) | (with_reducible apply blk_drewN))); exact blk_set (by (repeat (first | (with_reducible exact BF.out) | (with_reducible apply blk_drew) | (with_reducible apply blk_drewN))); done) 0 _) hk (fun h => h)); have y0 : wy.cell? ⟨b_BF, 0, none⟩ = some ((.int .i64 (nx + (d : Int)))) := blk_cell BFy.out 0; have z0 : wy.frozen? ⟨b_BF, 0, none⟩ = false := blk_free BFy.out 0; have y1 : wy.cell? ⟨b_BF, 1, none⟩ = some ((.int .i64 f.k)) := blk_cell BFy.out 1; have z1 : wy.frozen? ⟨b_BF, 1, none⟩ = false := blk_free BFy.out 1; have y2 : wy.cell? ⟨b_BF, 2, none⟩ = some ((.bool false)) := blk_cell BFy.out 2; have z2 : wy.frozen? ⟨b_BF, 2, none⟩ = false := blk_free BFy.out 2; have y3 : wy.cell? ⟨b_BF, 3, none⟩ = some ((.slice ba m bc)) := blk_cell BFy.out 3; have z3 : wy.frozen? ⟨b_BF, 3, none⟩ = false := blk_free BFy.out 3; have y4 : wy.cell? ⟨b_BF, 4, none⟩ = some ((.int .u64 (f.t : Int))) := blk_cell BFy.out 4; have z4 : wy.frozen? ⟨b_BF, 4, none⟩ = false := blk_free BFy.out 4;  clear hk))))
                      all_goals
                        go_wp2_with fail
                        go_meet
                        refine ⟨a8, c8, hid ?_, hid ?_, hid ?_⟩
                        · first | (with_reducible exact L3 _ _ _ BFy.out) | (with_reducible exact L30 _ _ _ BFy.out) | (with_reducible exact L03 _ _ _ BFy.out)
                        · refine (HS8.out.2 _ ?_).mono (fun b _ h => Nat.le_trans HS8.out.1 h.1)
                          repeat (first | (with_reducible exact Keeps.refl _ _) | (with_reducible apply Keeps.drewN) | (with_reducible apply Keeps.drew) | (refine Keeps.setCell ?_ (.inl (.inl (by first | omega | (simp; omega)))) _))
                        · exact (by (repeat (first | (with_reducible exact KC.out) | (with_reducible exact Keeps.refl _ _) | (with_reducible apply Keeps.drewN) | (with_reducible apply Keeps.drew) | (with_reducible refine Keeps.setCell (S := fun b => b = b_BF) ?_ (.inl rfl) _))); done)
                    case rest =>
                      obtain ⟨a8, c8, N_BF, hs8, hk⟩ := hcut
                      replace hk := hk.out
                      generalize wc = W70 at *
                      clear HSS HCB hw3 BF
                      have HB' : Hd (Sl (fun b => b < w.heap.size) W70 (.slice ba m bc) (u8s f.b)) := hid (HB.out.keep hk (fun b h0 h1 h2 => by first | omega | (have := HPX.out b (by rcases h1 with h1 | h1; exact h1; exact .inr h1); omega)))
                      have BS' : Hd (Blk W70 w.heap.size #[(.int .i64 nx), (.slice a2 n c2), (.bool false), (.int .u64 (k2 : Int)), (.int .i64 i2)] 35) := hid (blk_keep BS.out hk (fun h => by omega))
                      have BR' : Hd (Blk W70 b_BR #[(.int .i64 0), (.slice none 0 0), (.bool false), (.int .u64 0), (.int .i64 0)] 35) := hid (blk_keep BR.out hk (fun h => by omega))
                      have HPJ' : Hd (FrP (fun b => K b ∨ W1.heap.size ≤ b) W1.heap.size W70 (.slice a2 n c2) fs) := hid (HPJ.out.keep hk (fun b h0 h1 h2 => by first | omega | (have := HPX.out b (by rcases h1 with h1 | h1; exact h1; exact .inr h1); omega)))
                      have B_L' : Hd (Blk W70 b_L #[(.int .u64 (k2 : Int)), (.int .i64 i2)] 33) := hid (blk_keep B_L.out hk (fun h => by omega))
                      clear HB BS BR HPJ B_L
                      have HB := HB'
                      clear HB'
                      have BS := BS'
                      clear BS'
                      have BR := BR'
                      clear BR'
                      have HPJ := HPJ'
                      clear HPJ'
                      have B_L := B_L'
                      clear B_L'
                      have HK' : Hd (Keeps (fun _ => False) w W70) := hid (HK.out.trans' hk (fun i hi h => by omega))
                      clear HK
                      have HK := HK'
                      clear HK'
                      have z_W70 := hk.size
                      clear hk
                      have BF := N_BF
                      clear N_BF
                      obtain ⟨g, hg⟩ : ∃ g, setQ f (nx + (d : Int)) = g := ⟨_, rfl⟩
                      have HG := hid hg
                      have HGE : Hd (g = ⟨nx + (d : Int), f.k, f.u, f.b, f.t⟩) := hid (by rw [← hg]; rfl)
                      clear hg
                      obtain ⟨L, hL⟩ : ∃ L, (insM g fs).length = L := ⟨_, rfl⟩
                      have HL := hid hL
                      clear hL
                      have HCK : Hd (Calls Tryd.prog 70 #[.slice a2 n c2, .agg #[(.int .i64 (nx + (d : Int))), (.int .i64 f.k), (.bool false), (.slice a8 m c8), (.int .u64 (f.t : Int))]] W70 fun e w' => ∃ a c, e = .returned (.slice a L c) ∧ Frs (fun b => (fun b => (K b ∨ W1.heap.size ≤ b) ∧ b < W70.heap.size) b ∨ W70.heap.size ≤ b) w' (.slice a L c) (insM g fs) ∧ Keeps (fun _ => False) W70 w') := hid (by
                        obtain ⟨xs, hrow, hfl⟩ := (HPJ.out.sgs.mono (K' := (fun b => (K b ∨ W1.heap.size ≤ b) ∧ b < W70.heap.size)) (fun b h1 h2 => by rcases h2 with h2 | h2; exact ⟨h2, h1⟩; exact ⟨.inr h2, h1⟩))
                        rw [HN.out] at hrow
                        have hs9 : Sl (fun b => (K b ∨ W1.heap.size ≤ b) ∧ b < W70.heap.size) W70 (.slice a8 g.b.length c8) (u8s g.b) := (by rw [HGE.out]; simp only []; rw [HM.out]; exact hs8.out.mono (fun b h1 h2 => ⟨.inr (by omega), h1⟩))
                        have h := keep_raw fs xs a2 c2 g a8 c8 W70 (fun b => (K b ∨ W1.heap.size ≤ b) ∧ b < W70.heap.size) (fun b h => h.2) (by rw [HN.out]; exact hrow) hfl (by rw [HN.out]; omega)
                        rw [HN.out] at h
                        have h2 := h.mono (fun e w' hh => keep_frs (fun b h => h.2) hfl hs9 hh)
                        rw [HL.out, HGE.out] at h2
                        simp only [HM.out, HU.out] at h2
                        rw [HGE.out, HU.out]; exact h2)
                      have o_BS_1 : W70.cell? ⟨w.heap.size, 1, none⟩ = some ((.slice a2 n c2)) := blk_cell BS.out 1
                      have o_BF_0 : W70.cell? ⟨b_BF, 0, none⟩ = some ((.int .i64 (nx + (d : Int)))) := blk_cell BF.out 0
                      have o_BF_1 : W70.cell? ⟨b_BF, 1, none⟩ = some ((.int .i64 f.k)) := blk_cell BF.out 1
                      have o_BF_2 : W70.cell? ⟨b_BF, 2, none⟩ = some ((.bool false)) := blk_cell BF.out 2
                      have o_BF_3 : W70.cell? ⟨b_BF, 3, none⟩ = some ((.slice a8 m c8)) := blk_cell BF.out 3
                      have o_BF_4 : W70.cell? ⟨b_BF, 4, none⟩ = some ((.int .u64 (f.t : Int))) := blk_cell BF.out 4
                      go_wp2_with fail
                      refine (HCK.out).mono ?_
                      rintro e V9 ⟨a9, c9, rfl, hfr, hk⟩
                      have HIN := hid hfr
                      clear hfr HCK HPJ hs8
                      clear o_BS_1 o_BF_0 o_BF_1 o_BF_2 o_BF_3 o_BF_4
                      have HB' : Hd (Sl (fun b => b < w.heap.size) V9 (.slice ba m bc) (u8s f.b)) := hid (HB.out.keep hk (fun _ _ _ h => h))
                      have BS' : Hd (Blk V9 w.heap.size #[(.int .i64 nx), (.slice a2 n c2), (.bool false), (.int .u64 (k2 : Int)), (.int .i64 i2)] 35) := hid (blk_keep BS.out hk (fun h => h))
                      have BR' : Hd (Blk V9 b_BR #[(.int .i64 0), (.slice none 0 0), (.bool false), (.int .u64 0), (.int .i64 0)] 35) := hid (blk_keep BR.out hk (fun h => h))
                      have B_L' : Hd (Blk V9 b_L #[(.int .u64 (k2 : Int)), (.int .i64 i2)] 33) := hid (blk_keep B_L.out hk (fun h => h))
                      have BF' : Hd (Blk V9 b_BF #[(.int .i64 (nx + (d : Int))), (.int .i64 f.k), (.bool false), (.slice a8 m c8), (.int .u64 (f.t : Int))] 25) := hid (blk_keep BF.out hk (fun h => h))
                      clear HB BS BR B_L BF
                      have HB := HB'
                      clear HB'
                      have BS := BS'
                      clear BS'
                      have BR := BR'
                      clear BR'
                      have B_L := B_L'
                      clear B_L'
                      have BF := BF'
                      clear BF'
                      have HK' : Hd (Keeps (fun _ => False) w V9) := hid (HK.out.trans hk)
                      clear HK
                      have HK := HK'
                      clear HK'
                      have z_V9 := hk.size
                      clear hk
                      have o_BS_1 : V9.cell? ⟨w.heap.size, 1, none⟩ = some ((.slice a2 n c2)) := blk_cell BS.out 1
                      have f_BS_1 : V9.frozen? ⟨w.heap.size, 1, none⟩ = false := blk_free BS.out 1
                      go_upto_region 29 with fail
                      clear o_BS_1 f_BS_1
                      generalize hW : World.setCell V9 _ _ = W76
                      have KS : Hd (Keeps (fun b => b = w.heap.size) V9 W76) := hid (by rw [← hW]; exact (Keeps.setCell (S := fun b => b = w.heap.size) (p := ⟨w.heap.size, 1, none⟩) (Keeps.refl (fun b => b = w.heap.size) V9) (.inl rfl) _))
                      have HB' : Hd (Sl (fun b => b < w.heap.size) W76 (.slice ba m bc) (u8s f.b)) := hid (HB.out.keep KS.out (fun b _ h1 h2 => by omega))
                      have BS' : Hd (Blk W76 w.heap.size #[(.int .i64 nx), (.slice a9 L c9), (.bool false), (.int .u64 (k2 : Int)), (.int .i64 i2)] 35) := hid (by rw [← hW]; exact (blk_set BS.out 1 _))
                      have BR' : Hd (Blk W76 b_BR #[(.int .i64 0), (.slice none 0 0), (.bool false), (.int .u64 0), (.int .i64 0)] 35) := hid (by rw [← hW]; exact (blk_other BR.out (by omega) _ _))
                      have B_L' : Hd (Blk W76 b_L #[(.int .u64 (k2 : Int)), (.int .i64 i2)] 33) := hid (by rw [← hW]; exact (blk_other B_L.out (by omega) _ _))
                      have BF' : Hd (Blk W76 b_BF #[(.int .i64 (nx + (d : Int))), (.int .i64 f.k), (.bool false), (.slice a8 m c8), (.int .u64 (f.t : Int))] 25) := hid (by rw [← hW]; exact (blk_other BF.out (by omega) _ _))
                      have HIN' : Hd (Frs (fun b => ((K b ∨ W1.heap.size ≤ b) ∧ b < W70.heap.size) ∨ W70.heap.size ≤ b) W76 (.slice a9 L c9) (insM g fs)) := hid (HIN.out.keep KS.out (fun b _ h1 h2 => by rcases h1 with h1 | h1; (have := HPX.out b h1.1; omega); omega))
                      clear HB BS BR B_L BF HIN
                      have HB := HB'
                      clear HB'
                      have BS := BS'
                      clear BS'
                      have BR := BR'
                      clear BR'
                      have B_L := B_L'
                      clear B_L'
                      have BF := BF'
                      clear BF'
                      have HIN := HIN'
                      clear HIN'
                      have HK' : Hd (Keeps (fun _ => False) w W76) := hid (HK.out.trans' KS.out (fun i hi h => by omega))
                      clear HK
                      have HK := HK'
                      clear HK'
                      have z_W76 : V9.heap.size + 0 ≤ W76.heap.size := by rw [← hW]; simp
                      clear hW KS
                      have HMQ : Hd (MM = (⟨nx, insM g fs, false, ⟨k2, i2⟩⟩, [], 0)) := hid (by rw [HGO.out, recv2_keep HU.out rfl (by show distM f.q nx ≠ 0; rw [HD.out]; exact HDZ.out) (by show distM f.q nx < 16; rw [HD.out]; omega)]; simp only [HD.out, HG.out])
                      have o_BS_0 : W76.cell? ⟨w.heap.size, 0, none⟩ = some ((.int .i64 nx)) := blk_cell BS.out 0
                      have o_BS_1 : W76.cell? ⟨w.heap.size, 1, none⟩ = some ((.slice a9 L c9)) := blk_cell BS.out 1
                      have o_BS_2 : W76.cell? ⟨w.heap.size, 2, none⟩ = some ((.bool false)) := blk_cell BS.out 2
                      have o_BS_3 : W76.cell? ⟨w.heap.size, 3, none⟩ = some ((.int .u64 (k2 : Int))) := blk_cell BS.out 3
                      have o_BS_4 : W76.cell? ⟨w.heap.size, 4, none⟩ = some ((.int .i64 i2)) := blk_cell BS.out 4
                      have o_BR_0 : W76.cell? ⟨b_BR, 0, none⟩ = some ((.int .i64 0)) := blk_cell BR.out 0
                      have o_BR_1 : W76.cell? ⟨b_BR, 1, none⟩ = some ((.slice none 0 0)) := blk_cell BR.out 1
                      have o_BR_2 : W76.cell? ⟨b_BR, 2, none⟩ = some ((.bool false)) := blk_cell BR.out 2
                      have o_BR_3 : W76.cell? ⟨b_BR, 3, none⟩ = some ((.int .u64 0)) := blk_cell BR.out 3
                      have o_BR_4 : W76.cell? ⟨b_BR, 4, none⟩ = some ((.int .i64 0)) := blk_cell BR.out 4
                      have f_BR_0 : W76.frozen? ⟨b_BR, 0, none⟩ = false := blk_free BR.out 0
                      have f_BR_1 : W76.frozen? ⟨b_BR, 1, none⟩ = false := blk_free BR.out 1
                      have f_BR_2 : W76.frozen? ⟨b_BR, 2, none⟩ = false := blk_free BR.out 2
                      have f_BR_3 : W76.frozen? ⟨b_BR, 3, none⟩ = false := blk_free BR.out 3
                      have f_BR_4 : W76.frozen? ⟨b_BR, 4, none⟩ = false := blk_free BR.out 4
                      go_wp2
                      clear o_BS_0 o_BS_1 o_BS_2 o_BS_3 o_BS_4 o_BR_0 o_BR_1 o_BR_2 o_BR_3 o_BR_4 f_BR_0 f_BR_1 f_BR_2 f_BR_3 f_BR_4
                      obtain ⟨HV2, B3⟩ := fin5 HK.out (show w.heap.size ≤ b_BR by omega) BR.out (.int .i64 nx) (.slice a9 L c9) (.bool false) (.int .u64 (k2 : Int)) (.int .i64 i2)
                      have r0 := blk_cell B3 0
                      have r1 := blk_cell B3 1
                      have r2 := blk_cell B3 2
                      have r3 := blk_cell B3 3
                      have r4 := blk_cell B3 4
                      have k9 := keep5 W76 b_BR (.int .i64 nx) (.slice a9 L c9) (.bool false) (.int .u64 (k2 : Int)) (.int .i64 i2)
                      refine bodyPost_ret (v := .tuple #[.agg #[(.int .i64 nx), (.slice a9 L c9), (.bool false), (.int .u64 (k2 : Int)), (.int .i64 i2)], .slice none 0 0, .int .i64 0]) (by simp [results, Tryd.results24, go_sem, r0, r1, r2, r3, r4]) rfl ?_
                      refine recvR_mk (a2 := a9) (c2 := c9) (a3 := none) (c3 := 0) (n' := L) (bn := 0) (HMQ.out) ?_ ?_ rfl ?_ ?_ HV2
                      · exact HL.out
                      · rfl
                      · exact (HIN.out.keep k9 (fun b _ h1 h2 => by rcases h1 with h1 | h1; (have := HPX.out b h1.1; omega); omega)).mono (fun b _ h => by rcases h with h | h; (rcases h.1 with h2 | h2; exact .inl h2; exact .inr (by omega)); exact .inr (by omega))
                      · exact Bds.nil _ _
                  · have d1 : ¬ ((d : Int) < 16) := by omega
                    by_cases hd2 : d < 128
                    · have d2 : (d : Int) < 128 := by omega
                      have o_BF_2 : W50.cell? ⟨b_BF, 2, none⟩ = some ((.bool false)) := blk_cell BF.out 2
                      have o_BS_0 : W50.cell? ⟨w.heap.size, 0, none⟩ = some ((.int .i64 nx)) := blk_cell BS.out 0
                      have o_BS_1 : W50.cell? ⟨w.heap.size, 1, none⟩ = some ((.slice a2 n c2)) := blk_cell BS.out 1
                      have o_BS_2 : W50.cell? ⟨w.heap.size, 2, none⟩ = some ((.bool false)) := blk_cell BS.out 2
                      have o_BS_3 : W50.cell? ⟨w.heap.size, 3, none⟩ = some ((.int .u64 (k2 : Int))) := blk_cell BS.out 3
                      have o_BS_4 : W50.cell? ⟨w.heap.size, 4, none⟩ = some ((.int .i64 i2)) := blk_cell BS.out 4
                      have f_BS_2 : W50.frozen? ⟨w.heap.size, 2, none⟩ = false := blk_free BS.out 2
                      have o_BR_0 : W50.cell? ⟨b_BR, 0, none⟩ = some ((.int .i64 0)) := blk_cell BR.out 0
                      have o_BR_1 : W50.cell? ⟨b_BR, 1, none⟩ = some ((.slice none 0 0)) := blk_cell BR.out 1
                      have o_BR_2 : W50.cell? ⟨b_BR, 2, none⟩ = some ((.bool false)) := blk_cell BR.out 2
                      have o_BR_3 : W50.cell? ⟨b_BR, 3, none⟩ = some ((.int .u64 0)) := blk_cell BR.out 3
                      have o_BR_4 : W50.cell? ⟨b_BR, 4, none⟩ = some ((.int .i64 0)) := blk_cell BR.out 4
                      have f_BR_0 : W50.frozen? ⟨b_BR, 0, none⟩ = false := blk_free BR.out 0
                      have f_BR_1 : W50.frozen? ⟨b_BR, 1, none⟩ = false := blk_free BR.out 1
                      have f_BR_2 : W50.frozen? ⟨b_BR, 2, none⟩ = false := blk_free BR.out 2
                      have f_BR_3 : W50.frozen? ⟨b_BR, 3, none⟩ = false := blk_free BR.out 3
                      have f_BR_4 : W50.frozen? ⟨b_BR, 4, none⟩ = false := blk_free BR.out 4
                      go_upto_region 28 with fail
                      clear o_BF_2 o_BS_0 o_BS_1 o_BS_2 o_BS_3 o_BS_4 f_BS_2 o_BR_0 o_BR_1 o_BR_2 o_BR_3 o_BR_4 f_BR_0 f_BR_1 f_BR_2 f_BR_3 f_BR_4
                      generalize hW : World.setCell W50 _ _ = W61
                      have KS : Hd (Keeps (fun b => b = w.heap.size) W50 W61) := hid (by rw [← hW]; exact (Keeps.setCell (S := fun b => b = w.heap.size) (p := ⟨w.heap.size, 2, none⟩) (Keeps.refl (fun b => b = w.heap.size) W50) (.inl rfl) _))
                      have HB' : Hd (Sl (fun b => b < w.heap.size) W61 (.slice ba m bc) (u8s f.b)) := hid (HB.out.keep KS.out (fun b _ h1 h2 => by omega))
                      have BS' : Hd (Blk W61 w.heap.size #[(.int .i64 nx), (.slice a2 n c2), (.bool true), (.int .u64 (k2 : Int)), (.int .i64 i2)] 35) := hid (by rw [← hW]; exact (blk_set BS.out 2 _))
                      have BF' : Hd (Blk W61 b_BF #[(.int .i64 f.q), (.int .i64 f.k), (.bool false), (.slice ba m bc), (.int .u64 (f.t : Int))] 25) := hid (by rw [← hW]; exact (blk_other BF.out (by omega) _ _))
                      have BR' : Hd (Blk W61 b_BR #[(.int .i64 0), (.slice none 0 0), (.bool false), (.int .u64 0), (.int .i64 0)] 35) := hid (by rw [← hW]; exact (blk_other BR.out (by omega) _ _))
                      have HPJ' : Hd (FrP (fun b => K b ∨ W1.heap.size ≤ b) W1.heap.size W61 (.slice a2 n c2) fs) := hid (HPJ.out.keep KS.out (fun b _ h1 h2 => by have := HPX.out b (by rcases h1 with h1 | h1; exact h1; exact .inr h1); omega))
                      have B_L' : Hd (Blk W61 b_L #[(.int .u64 (k2 : Int)), (.int .i64 i2)] 33) := hid (by rw [← hW]; exact (blk_other B_L.out (by omega) _ _))
                      clear HB BS BF BR HPJ B_L
                      have HB := HB'
                      clear HB'
                      have BS := BS'
                      clear BS'
                      have BF := BF'
                      clear BF'
                      have BR := BR'
                      clear BR'
                      have HPJ := HPJ'
                      clear HPJ'
                      have B_L := B_L'
                      clear B_L'
                      have HK' : Hd (Keeps (fun _ => False) w W61) := hid (HK.out.trans' KS.out (fun i hi h => by omega))
                      clear HK
                      have HK := HK'
                      clear HK'
                      have z_W61 : W50.heap.size + 0 ≤ W61.heap.size := by rw [← hW]; simp
                      clear hW KS
                      have o_BS_0 : W61.cell? ⟨w.heap.size, 0, none⟩ = some ((.int .i64 nx)) := blk_cell BS.out 0
                      have o_BS_1 : W61.cell? ⟨w.heap.size, 1, none⟩ = some ((.slice a2 n c2)) := blk_cell BS.out 1
                      have o_BS_2 : W61.cell? ⟨w.heap.size, 2, none⟩ = some ((.bool true)) := blk_cell BS.out 2
                      have o_BS_3 : W61.cell? ⟨w.heap.size, 3, none⟩ = some ((.int .u64 (k2 : Int))) := blk_cell BS.out 3
                      have o_BS_4 : W61.cell? ⟨w.heap.size, 4, none⟩ = some ((.int .i64 i2)) := blk_cell BS.out 4
                      have o_BR_0 : W61.cell? ⟨b_BR, 0, none⟩ = some ((.int .i64 0)) := blk_cell BR.out 0
                      have o_BR_1 : W61.cell? ⟨b_BR, 1, none⟩ = some ((.slice none 0 0)) := blk_cell BR.out 1
                      have o_BR_2 : W61.cell? ⟨b_BR, 2, none⟩ = some ((.bool false)) := blk_cell BR.out 2
                      have o_BR_3 : W61.cell? ⟨b_BR, 3, none⟩ = some ((.int .u64 0)) := blk_cell BR.out 3
                      have o_BR_4 : W61.cell? ⟨b_BR, 4, none⟩ = some ((.int .i64 0)) := blk_cell BR.out 4
                      have f_BR_0 : W61.frozen? ⟨b_BR, 0, none⟩ = false := blk_free BR.out 0
                      have f_BR_1 : W61.frozen? ⟨b_BR, 1, none⟩ = false := blk_free BR.out 1
                      have f_BR_2 : W61.frozen? ⟨b_BR, 2, none⟩ = false := blk_free BR.out 2
                      have f_BR_3 : W61.frozen? ⟨b_BR, 3, none⟩ = false := blk_free BR.out 3
                      have f_BR_4 : W61.frozen? ⟨b_BR, 4, none⟩ = false := blk_free BR.out 4
                      go_wp2
                      clear o_BS_0 o_BS_1 o_BS_2 o_BS_3 o_BS_4 o_BR_0 o_BR_1 o_BR_2 o_BR_3 o_BR_4 f_BR_0 f_BR_1 f_BR_2 f_BR_3 f_BR_4
                      obtain ⟨HV2, B3⟩ := fin5 HK.out (show w.heap.size ≤ b_BR by omega) BR.out (.int .i64 nx) (.slice a2 n c2) (.bool true) (.int .u64 (k2 : Int)) (.int .i64 i2)
                      have r0 := blk_cell B3 0
                      have r1 := blk_cell B3 1
                      have r2 := blk_cell B3 2
                      have r3 := blk_cell B3 3
                      have r4 := blk_cell B3 4
                      have k9 := keep5 W61 b_BR (.int .i64 nx) (.slice a2 n c2) (.bool true) (.int .u64 (k2 : Int)) (.int .i64 i2)
                      refine bodyPost_ret (v := .tuple #[.agg #[(.int .i64 nx), (.slice a2 n c2), (.bool true), (.int .u64 (k2 : Int)), (.int .i64 i2)], .slice none 0 0, .int .i64 32]) (by simp [results, Tryd.results24, go_sem, r0, r1, r2, r3, r4]) rfl ?_
                      refine recvR_mk (a2 := a2) (c2 := c2) (a3 := none) (c3 := 0) (n' := n) (bn := 0) ((by rw [HGO.out, recv2_far HU.out rfl (by show 16 ≤ distM f.q nx; rw [HD.out]; omega) (by show distM f.q nx < 128; rw [HD.out]; omega)])) ?_ ?_ rfl ?_ ?_ HV2
                      · exact HN.out
                      · rfl
                      · exact (HPJ.out.sgs.keep k9 (fun b _ h1 h2 => by have := HPX.out b (by rcases h1 with h1 | h1; exact h1; exact .inr h1); omega)).mono (fun b _ h => by rcases h with (h | h) | h; exact .inl h; exact .inr (by omega); exact .inr (by omega))
                      · exact Bds.nil _ _
                    · have d2 : ¬ ((d : Int) < 128) := by omega
                      have o_BF_2 : W50.cell? ⟨b_BF, 2, none⟩ = some ((.bool false)) := blk_cell BF.out 2
                      have o_BS_0 : W50.cell? ⟨w.heap.size, 0, none⟩ = some ((.int .i64 nx)) := blk_cell BS.out 0
                      have o_BS_1 : W50.cell? ⟨w.heap.size, 1, none⟩ = some ((.slice a2 n c2)) := blk_cell BS.out 1
                      have o_BS_2 : W50.cell? ⟨w.heap.size, 2, none⟩ = some ((.bool false)) := blk_cell BS.out 2
                      have o_BS_3 : W50.cell? ⟨w.heap.size, 3, none⟩ = some ((.int .u64 (k2 : Int))) := blk_cell BS.out 3
                      have o_BS_4 : W50.cell? ⟨w.heap.size, 4, none⟩ = some ((.int .i64 i2)) := blk_cell BS.out 4
                      have o_BR_0 : W50.cell? ⟨b_BR, 0, none⟩ = some ((.int .i64 0)) := blk_cell BR.out 0
                      have o_BR_1 : W50.cell? ⟨b_BR, 1, none⟩ = some ((.slice none 0 0)) := blk_cell BR.out 1
                      have o_BR_2 : W50.cell? ⟨b_BR, 2, none⟩ = some ((.bool false)) := blk_cell BR.out 2
                      have o_BR_3 : W50.cell? ⟨b_BR, 3, none⟩ = some ((.int .u64 0)) := blk_cell BR.out 3
                      have o_BR_4 : W50.cell? ⟨b_BR, 4, none⟩ = some ((.int .i64 0)) := blk_cell BR.out 4
                      have f_BR_0 : W50.frozen? ⟨b_BR, 0, none⟩ = false := blk_free BR.out 0
                      have f_BR_1 : W50.frozen? ⟨b_BR, 1, none⟩ = false := blk_free BR.out 1
                      have f_BR_2 : W50.frozen? ⟨b_BR, 2, none⟩ = false := blk_free BR.out 2
                      have f_BR_3 : W50.frozen? ⟨b_BR, 3, none⟩ = false := blk_free BR.out 3
                      have f_BR_4 : W50.frozen? ⟨b_BR, 4, none⟩ = false := blk_free BR.out 4
                      go_wp2
                      clear o_BF_2 o_BS_0 o_BS_1 o_BS_2 o_BS_3 o_BS_4 o_BR_0 o_BR_1 o_BR_2 o_BR_3 o_BR_4 f_BR_0 f_BR_1 f_BR_2 f_BR_3 f_BR_4
                      obtain ⟨HV2, B3⟩ := fin5 HK.out (show w.heap.size ≤ b_BR by omega) BR.out (.int .i64 nx) (.slice a2 n c2) (.bool false) (.int .u64 (k2 : Int)) (.int .i64 i2)
                      have r0 := blk_cell B3 0
                      have r1 := blk_cell B3 1
                      have r2 := blk_cell B3 2
                      have r3 := blk_cell B3 3
                      have r4 := blk_cell B3 4
                      have k9 := keep5 W50 b_BR (.int .i64 nx) (.slice a2 n c2) (.bool false) (.int .u64 (k2 : Int)) (.int .i64 i2)
                      refine bodyPost_ret (v := .tuple #[.agg #[(.int .i64 nx), (.slice a2 n c2), (.bool false), (.int .u64 (k2 : Int)), (.int .i64 i2)], .slice none 0 0, .int .i64 0]) (by simp [results, Tryd.results24, go_sem, r0, r1, r2, r3, r4]) rfl ?_
                      refine recvR_mk (a2 := a2) (c2 := c2) (a3 := none) (c3 := 0) (n' := n) (bn := 0) ((by rw [HGO.out, recv2_old HU.out rfl (by show 128 ≤ distM f.q nx; rw [HD.out]; omega)])) ?_ ?_ rfl ?_ ?_ HV2
                      · exact HN.out
                      · rfl
                      · exact (HPJ.out.sgs.keep k9 (fun b _ h1 h2 => by have := HPX.out b (by rcases h1 with h1 | h1; exact h1; exact .inr h1); omega)).mono (fun b _ h => by rcases h with (h | h) | h; exact .inl h; exact .inr (by omega); exact .inr (by omega))
                      · exact Bds.nil _ _
              · have o_BF_2 : W50.cell? ⟨b_BF, 2, none⟩ = some ((.bool false)) := blk_cell BF.out 2
                have o_BS_0 : W50.cell? ⟨w.heap.size, 0, none⟩ = some ((.int .i64 nx)) := blk_cell BS.out 0
                have o_BS_1 : W50.cell? ⟨w.heap.size, 1, none⟩ = some ((.slice a2 n c2)) := blk_cell BS.out 1
                have o_BS_2 : W50.cell? ⟨w.heap.size, 2, none⟩ = some ((.bool true)) := blk_cell BS.out 2
                have o_BS_3 : W50.cell? ⟨w.heap.size, 3, none⟩ = some ((.int .u64 (k2 : Int))) := blk_cell BS.out 3
                have o_BS_4 : W50.cell? ⟨w.heap.size, 4, none⟩ = some ((.int .i64 i2)) := blk_cell BS.out 4
                have o_BR_0 : W50.cell? ⟨b_BR, 0, none⟩ = some ((.int .i64 0)) := blk_cell BR.out 0
                have o_BR_1 : W50.cell? ⟨b_BR, 1, none⟩ = some ((.slice none 0 0)) := blk_cell BR.out 1
                have o_BR_2 : W50.cell? ⟨b_BR, 2, none⟩ = some ((.bool false)) := blk_cell BR.out 2
                have o_BR_3 : W50.cell? ⟨b_BR, 3, none⟩ = some ((.int .u64 0)) := blk_cell BR.out 3
                have o_BR_4 : W50.cell? ⟨b_BR, 4, none⟩ = some ((.int .i64 0)) := blk_cell BR.out 4
                have f_BR_0 : W50.frozen? ⟨b_BR, 0, none⟩ = false := blk_free BR.out 0
                have f_BR_1 : W50.frozen? ⟨b_BR, 1, none⟩ = false := blk_free BR.out 1
                have f_BR_2 : W50.frozen? ⟨b_BR, 2, none⟩ = false := blk_free BR.out 2
                have f_BR_3 : W50.frozen? ⟨b_BR, 3, none⟩ = false := blk_free BR.out 3
                have f_BR_4 : W50.frozen? ⟨b_BR, 4, none⟩ = false := blk_free BR.out 4
                go_wp2
                clear o_BF_2 o_BS_0 o_BS_1 o_BS_2 o_BS_3 o_BS_4 o_BR_0 o_BR_1 o_BR_2 o_BR_3 o_BR_4 f_BR_0 f_BR_1 f_BR_2 f_BR_3 f_BR_4
                obtain ⟨HV2, B3⟩ := fin5 HK.out (show w.heap.size ≤ b_BR by omega) BR.out (.int .i64 nx) (.slice a2 n c2) (.bool true) (.int .u64 (k2 : Int)) (.int .i64 i2)
                have r0 := blk_cell B3 0
                have r1 := blk_cell B3 1
                have r2 := blk_cell B3 2
                have r3 := blk_cell B3 3
                have r4 := blk_cell B3 4
                have k9 := keep5 W50 b_BR (.int .i64 nx) (.slice a2 n c2) (.bool true) (.int .u64 (k2 : Int)) (.int .i64 i2)
                refine bodyPost_ret (v := .tuple #[.agg #[(.int .i64 nx), (.slice a2 n c2), (.bool true), (.int .u64 (k2 : Int)), (.int .i64 i2)], .slice none 0 0, .int .i64 31]) (by simp [results, Tryd.results24, go_sem, r0, r1, r2, r3, r4]) rfl ?_
                refine recvR_mk (a2 := a2) (c2 := c2) (a3 := none) (c3 := 0) (n' := n) (bn := 0) ((by rw [HGO.out, recv2_lock HU.out rfl])) ?_ ?_ rfl ?_ ?_ HV2
                · exact HN.out
                · rfl
                · exact (HPJ.out.sgs.keep k9 (fun b _ h1 h2 => by have := HPX.out b (by rcases h1 with h1 | h1; exact h1; exact .inr h1); omega)).mono (fun b _ h => by rcases h with (h | h) | h; exact .inl h; exact .inr (by omega); exact .inr (by omega))
                · exact Bds.nil _ _
            · by_cases hd : 128 ≤ d
              · have d1 : (128 : Int) ≤ (d : Int) := by omega
                have o_BF_2 : W50.cell? ⟨b_BF, 2, none⟩ = some ((.bool true)) := blk_cell BF.out 2
                have o_BS_0 : W50.cell? ⟨w.heap.size, 0, none⟩ = some ((.int .i64 nx)) := blk_cell BS.out 0
                have o_B_L_0 : W50.cell? ⟨b_L, 0, none⟩ = some ((.int .u64 (k2 : Int))) := blk_cell B_L.out 0
                have o_B_L_1 : W50.cell? ⟨b_L, 1, none⟩ = some ((.int .i64 i2)) := blk_cell B_L.out 1
                have o_BR_0 : W50.cell? ⟨b_BR, 0, none⟩ = some ((.int .i64 0)) := blk_cell BR.out 0
                have o_BR_1 : W50.cell? ⟨b_BR, 1, none⟩ = some ((.slice none 0 0)) := blk_cell BR.out 1
                have o_BR_2 : W50.cell? ⟨b_BR, 2, none⟩ = some ((.bool false)) := blk_cell BR.out 2
                have o_BR_3 : W50.cell? ⟨b_BR, 3, none⟩ = some ((.int .u64 0)) := blk_cell BR.out 3
                have o_BR_4 : W50.cell? ⟨b_BR, 4, none⟩ = some ((.int .i64 0)) := blk_cell BR.out 4
                have f_BR_0 : W50.frozen? ⟨b_BR, 0, none⟩ = false := blk_free BR.out 0
                have f_BR_1 : W50.frozen? ⟨b_BR, 1, none⟩ = false := blk_free BR.out 1
                have f_BR_2 : W50.frozen? ⟨b_BR, 2, none⟩ = false := blk_free BR.out 2
                have f_BR_3 : W50.frozen? ⟨b_BR, 3, none⟩ = false := blk_free BR.out 3
                have f_BR_4 : W50.frozen? ⟨b_BR, 4, none⟩ = false := blk_free BR.out 4
                go_wp2
                clear o_BF_2 o_BS_0 o_B_L_0 o_B_L_1 o_BR_0 o_BR_1 o_BR_2 o_BR_3 o_BR_4 f_BR_0 f_BR_1 f_BR_2 f_BR_3 f_BR_4
                obtain ⟨HV2, B3⟩ := fin5 HK.out (show w.heap.size ≤ b_BR by omega) BR.out (.int .i64 nx) (.slice none 0 0) (.bool false) (.int .u64 (k2 : Int)) (.int .i64 i2)
                have r0 := blk_cell B3 0
                have r1 := blk_cell B3 1
                have r2 := blk_cell B3 2
                have r3 := blk_cell B3 3
                have r4 := blk_cell B3 4
                have k9 := keep5 W50 b_BR (.int .i64 nx) (.slice none 0 0) (.bool false) (.int .u64 (k2 : Int)) (.int .i64 i2)
                refine bodyPost_ret (v := .tuple #[.agg #[(.int .i64 nx), (.slice none 0 0), (.bool false), (.int .u64 (k2 : Int)), (.int .i64 i2)], .slice none 0 0, .int .i64 0]) (by simp [results, Tryd.results24, go_sem, r0, r1, r2, r3, r4]) rfl ?_
                refine recvR_mk (a2 := none) (c2 := 0) (a3 := none) (c3 := 0) (n' := 0) (bn := 0) ((by rw [HGO.out, recv2_uold HU.out (by show 128 ≤ distM f.q nx; rw [HD.out]; exact hd)])) ?_ ?_ rfl ?_ ?_ HV2
                · rfl
                · rfl
                · exact Frs.nil _ _
                · exact Bds.nil _ _
              · have d1 : ¬ ((128 : Int) ≤ (d : Int)) := by omega
                have hw2 : IntKind.i64.wrap (nx + (d : Int)) = nx + (d : Int) := IntWalk.i64_in _ (by omega)
                have o_BF_2 : W50.cell? ⟨b_BF, 2, none⟩ = some ((.bool true)) := blk_cell BF.out 2
                have o_BS_0 : W50.cell? ⟨w.heap.size, 0, none⟩ = some ((.int .i64 nx)) := blk_cell BS.out 0
                have o_B_L_0 : W50.cell? ⟨b_L, 0, none⟩ = some ((.int .u64 (k2 : Int))) := blk_cell B_L.out 0
                have o_B_L_1 : W50.cell? ⟨b_L, 1, none⟩ = some ((.int .i64 i2)) := blk_cell B_L.out 1
                have o_BR_0 : W50.cell? ⟨b_BR, 0, none⟩ = some ((.int .i64 0)) := blk_cell BR.out 0
                have o_BR_1 : W50.cell? ⟨b_BR, 1, none⟩ = some ((.slice none 0 0)) := blk_cell BR.out 1
                have o_BR_2 : W50.cell? ⟨b_BR, 2, none⟩ = some ((.bool false)) := blk_cell BR.out 2
                have o_BR_3 : W50.cell? ⟨b_BR, 3, none⟩ = some ((.int .u64 0)) := blk_cell BR.out 3
                have o_BR_4 : W50.cell? ⟨b_BR, 4, none⟩ = some ((.int .i64 0)) := blk_cell BR.out 4
                have f_BR_0 : W50.frozen? ⟨b_BR, 0, none⟩ = false := blk_free BR.out 0
                have f_BR_1 : W50.frozen? ⟨b_BR, 1, none⟩ = false := blk_free BR.out 1
                have f_BR_2 : W50.frozen? ⟨b_BR, 2, none⟩ = false := blk_free BR.out 2
                have f_BR_3 : W50.frozen? ⟨b_BR, 3, none⟩ = false := blk_free BR.out 3
                have f_BR_4 : W50.frozen? ⟨b_BR, 4, none⟩ = false := blk_free BR.out 4
                go_wp2
                clear o_BF_2 o_BS_0 o_B_L_0 o_B_L_1 o_BR_0 o_BR_1 o_BR_2 o_BR_3 o_BR_4 f_BR_0 f_BR_1 f_BR_2 f_BR_3 f_BR_4
                obtain ⟨HV2, B3⟩ := fin5 HK.out (show w.heap.size ≤ b_BR by omega) BR.out (.int .i64 (nx + (d : Int))) (.slice none 0 0) (.bool false) (.int .u64 (k2 : Int)) (.int .i64 i2)
                have r0 := blk_cell B3 0
                have r1 := blk_cell B3 1
                have r2 := blk_cell B3 2
                have r3 := blk_cell B3 3
                have r4 := blk_cell B3 4
                have k9 := keep5 W50 b_BR (.int .i64 (nx + (d : Int))) (.slice none 0 0) (.bool false) (.int .u64 (k2 : Int)) (.int .i64 i2)
                refine bodyPost_ret (v := .tuple #[.agg #[(.int .i64 (nx + (d : Int))), (.slice none 0 0), (.bool false), (.int .u64 (k2 : Int)), (.int .i64 i2)], .slice none 0 0, .int .i64 0]) (by simp [results, Tryd.results24, go_sem, r0, r1, r2, r3, r4]) rfl ?_
                refine recvR_mk (a2 := none) (c2 := 0) (a3 := none) (c3 := 0) (n' := 0) (bn := 0) ((by rw [HGO.out, recv2_unew HU.out (by show distM f.q nx < 128; rw [HD.out]; omega), HD.out])) ?_ ?_ rfl ?_ ?_ HV2
                · rfl
                · rfl
                · exact Frs.nil _ _
                · exact Bds.nil _ _
          · have hne : (er == 0) = false := by simp; exact her
            have hne2 : (er != 0) = true := by simp; exact her
            have o_BS_0 : W41.cell? ⟨w.heap.size, 0, none⟩ = some ((.int .i64 nx)) := blk_cell BS.out 0
            have o_BS_1 : W41.cell? ⟨w.heap.size, 1, none⟩ = some ((.slice a2 n c2)) := blk_cell BS.out 1
            have o_BS_2 : W41.cell? ⟨w.heap.size, 2, none⟩ = some ((.bool lk)) := blk_cell BS.out 2
            have o_BS_3 : W41.cell? ⟨w.heap.size, 3, none⟩ = some ((.int .u64 (k : Int))) := blk_cell BS.out 3
            have o_BS_4 : W41.cell? ⟨w.heap.size, 4, none⟩ = some ((.int .i64 i)) := blk_cell BS.out 4
            have o_BR_0 : W41.cell? ⟨b_BR, 0, none⟩ = some ((.int .i64 0)) := blk_cell BR.out 0
            have o_BR_1 : W41.cell? ⟨b_BR, 1, none⟩ = some ((.slice none 0 0)) := blk_cell BR.out 1
            have o_BR_2 : W41.cell? ⟨b_BR, 2, none⟩ = some ((.bool false)) := blk_cell BR.out 2
            have o_BR_3 : W41.cell? ⟨b_BR, 3, none⟩ = some ((.int .u64 0)) := blk_cell BR.out 3
            have o_BR_4 : W41.cell? ⟨b_BR, 4, none⟩ = some ((.int .i64 0)) := blk_cell BR.out 4
            have f_BR_0 : W41.frozen? ⟨b_BR, 0, none⟩ = false := blk_free BR.out 0
            have f_BR_1 : W41.frozen? ⟨b_BR, 1, none⟩ = false := blk_free BR.out 1
            have f_BR_2 : W41.frozen? ⟨b_BR, 2, none⟩ = false := blk_free BR.out 2
            have f_BR_3 : W41.frozen? ⟨b_BR, 3, none⟩ = false := blk_free BR.out 3
            have f_BR_4 : W41.frozen? ⟨b_BR, 4, none⟩ = false := blk_free BR.out 4
            go_wp2
            clear o_BS_0 o_BS_1 o_BS_2 o_BS_3 o_BS_4 o_BR_0 o_BR_1 o_BR_2 o_BR_3 o_BR_4 f_BR_0 f_BR_1 f_BR_2 f_BR_3 f_BR_4
            obtain ⟨HV2, B3⟩ := fin5 HK.out (show w.heap.size ≤ b_BR by omega) BR.out (.int .i64 nx) (.slice a2 n c2) (.bool lk) (.int .u64 (k : Int)) (.int .i64 i)
            have r0 := blk_cell B3 0
            have r1 := blk_cell B3 1
            have r2 := blk_cell B3 2
            have r3 := blk_cell B3 3
            have r4 := blk_cell B3 4
            have k9 := keep5 W41 b_BR (.int .i64 nx) (.slice a2 n c2) (.bool lk) (.int .u64 (k : Int)) (.int .i64 i)
            refine bodyPost_ret (v := .tuple #[.agg #[(.int .i64 nx), (.slice a2 n c2), (.bool lk), (.int .u64 (k : Int)), (.int .i64 i)], .slice none 0 0, .int .i64 er]) (by simp [results, Tryd.results24, go_sem, r0, r1, r2, r3, r4]) rfl ?_
            refine recvR_mk (a2 := a2) (c2 := c2) (a3 := none) (c3 := 0) (n' := n) (bn := 0) (HMM.out.symm.trans (recvM_bad (by rw [HM.out]; exact hm) (by rw [HEN.out]; exact HAC.out) her)) ?_ ?_ rfl ?_ ?_ HV2
            · exact HN.out
            · rfl
            · exact (HPJ.out.sgs.keep k9 (fun b _ h1 h2 => by have := HPX.out b (by rcases h1 with h1 | h1; exact h1; exact .inr h1); omega)).mono (fun b _ h => by rcases h with (h | h) | h; exact .inl h; exact .inr (by omega); exact .inr (by omega))
            · exact Bds.nil _ _
end Go.Proofs.YthoikljmokkchaaDoor
