/- Frame: FrameUnlocks walked. -/
import Derived.Test.YthoikljmokkchaaDoorFrWE
import Derived.Test.YthoikljmokkchaaDoorFrWG
import Derived.Test.YthoikljmokkchaaDoorFrHist
import Derived.Test.YthoikljmokkchaaDoorFrRun
import Derived.Test.YthoikljmokkchaaDoorFrManyX
import Derived.Deep.DrawnRows
namespace Go.Proofs.YthoikljmokkchaaDoor
open Go.RowKit
attribute [local go_sem ↓] Go.wp_at_zero Go.wp_at_succ
theorem set03_5 {X : World} {p : Nat} {c4 c5 c6 c7 c8 u0 u1 u2 u3 : Value} (h : X.cell? ⟨p, 4, none⟩ = some c4 ∧ X.cell? ⟨p, 5, none⟩ = some c5 ∧ X.cell? ⟨p, 6, none⟩ = some c6 ∧ X.cell? ⟨p, 7, none⟩ = some c7 ∧ X.cell? ⟨p, 8, none⟩ = some c8) :
    let Y := ((((X.setCell ⟨p, 0, none⟩ u0).setCell ⟨p, 1, none⟩ u1).setCell ⟨p, 2, none⟩ u2).setCell ⟨p, 3, none⟩ u3); Y.cell? ⟨p, 4, none⟩ = some c4 ∧ Y.cell? ⟨p, 5, none⟩ = some c5 ∧ Y.cell? ⟨p, 6, none⟩ = some c6 ∧ Y.cell? ⟨p, 7, none⟩ = some c7 ∧ Y.cell? ⟨p, 8, none⟩ = some c8 :=
  ⟨cell_set4 h.1 (.inr (by decide)), cell_set4 h.2.1 (.inr (by decide)), cell_set4 h.2.2.1 (.inr (by decide)), cell_set4 h.2.2.2.1 (.inr (by decide)), cell_set4 h.2.2.2.2 (.inr (by decide))⟩
def ldW : Op := Op.load 57 (.tmp 36)
theorem ldW_eq : Op.load 57 (.tmp 36) = ldW := rfl
attribute [local go_sem] ldW
def lUa : Op := Op.load 4 (.tmp 88)
theorem lUa_eq : Op.load 4 (.tmp 88) = lUa := rfl
attribute [local go_sem] lUa
def lUb : Op := Op.load 57 (.tmp 95)
theorem lUb_eq : Op.load 57 (.tmp 95) = lUb := rfl
attribute [local go_sem] lUb
def lUc : Op := Op.load 35 (.tmp 99)
theorem lUc_eq : Op.load 35 (.tmp 99) = lUc := rfl
attribute [local go_sem] lUc
def lUd : Op := Op.load 33 (.tmp 118)
theorem lUd_eq : Op.load 33 (.tmp 118) = lUd := rfl
attribute [local go_sem] lUd
def lUe : Op := Op.load 25 (.tmp 9)
theorem lUe_eq : Op.load 25 (.tmp 9) = lUe := rfl
attribute [local go_sem] lUe
def lUf : Op := Op.load 4 (.tmp 137)
theorem lUf_eq : Op.load 4 (.tmp 137) = lUf := rfl
attribute [local go_sem] lUf
def lUg : Op := Op.load 4 (.tmp 170)
theorem lUg_eq : Op.load 4 (.tmp 170) = lUg := rfl
attribute [local go_sem] lUg
def lUh : Op := Op.load 31 (.tmp 177)
theorem lUh_eq : Op.load 31 (.tmp 177) = lUh := rfl
attribute [local go_sem] lUh
def lUi : Op := Op.load 3 (.tmp 186)
theorem lUi_eq : Op.load 3 (.tmp 186) = lUi := rfl
attribute [local go_sem] lUi
def lUj : Op := Op.load 43 (.tmp 196)
theorem lUj_eq : Op.load 43 (.tmp 196) = lUj := rfl
attribute [local go_sem] lUj
def lUk : Op := Op.load 43 (.tmp 201)
theorem lUk_eq : Op.load 43 (.tmp 201) = lUk := rfl
attribute [local go_sem] lUk
theorem bdo_bds2 {D : Nat → Prop} {w : World} {v : Value} {l : List (List Nat)} (h : BdO D w v l) : Bds (fun _ => True) w v l := by
  obtain ⟨xs, h1, h2⟩ := h
  exact ⟨xs, h1.row.mono (fun _ _ _ => trivial), h2.mono (fun _ _ _ => trivial)⟩
section
variable {K D : Nat → Prop} {w : World} {p : Nat} {m : WM} {sa : Option Addr} {sc : Nat} {aa : Option Addr} {ac : Nat} {fa : Option Addr} {fc : Nat} {ra : Option Addr} {rc : Nat} {ga : Option Addr} {gc : Nat}
theorem WR.upSx {S : Nat → Prop} {w' : World} (h : WR K D w p m sa sc aa ac fa fc ra rc ga gc) (hk : Keeps S w w') (hS : ∀ b, b < w.heap.size → S b → b = p ∨ (¬ D b ∧ ¬ K b)) {s : Sd} {sa2 : Option Addr} {sc2 : Nat}
    (hb : Blk w' p #[.slice sa2 s.bs.length sc2, .int .i64 s.a, .int .u64 (s.l.k : Int), .int .i64 s.l.i, .int .i64 m.r.nx, .slice aa m.r.fs.length ac, .bool m.r.lk, .int .u64 (m.r.l.k : Int), .int .i64 m.r.l.i, .slice fa m.fs.length fc, .slice ra m.rp.length rc, .slice ga m.gt.length gc] 60)
    (hf : Bds (fun b => D b ∧ ¬ Mine p fa ra ga b) w' (.slice sa2 s.bs.length sc2) s.bs) : WR K D w' p ⟨s, m.r, m.fs, m.rp, m.gt⟩ sa2 sc2 aa ac fa fc ra rc ga gc := by
  have hm : ∀ b, b ≠ p → Mine p fa ra ga b → ¬ S b := fun b hn hb e => (hS b (h.lt b hb) e).elim hn (fun e => e.2 (h.k b hb))
  obtain ⟨-, r2, r3, r4, r5⟩ := h.rows (D2 := fun b => D b ∧ ¬ Mine p fa ra ga b) hk (fun b hb hd => ⟨fun e => (hS b hb e).elim (fun e => hd.2 (.inl e)) (fun e => e.1 hd.1), hd⟩)
  exact ⟨hb, hf, r2, r3 (fun b hb => hm b (h.d1 b hb).1 (.inr (.inl hb))), r4 (fun b hb => hm b (h.d2 b hb).1 (.inr (.inr (.inl hb)))), r5 (fun b hb => hm b (h.d3 b hb) (.inr (.inr (.inr hb)))), h.d1, h.d2, h.d3, h.k⟩
end
set_option maxRecDepth 100000 in
set_option maxHeartbeats 8000000 in
theorem unlocks_any (key : Nat) (l : List AC) (v : Value) (far : Int) (w : World) (hN : Cr.Nib w) (hkey : key < 18446744073709551616) (hv : Acs (fun b => b < w.heap.size) w v l) (hx : ∀ x ∈ l, AcOk x) (hf0 : -9223372036854775808 ≤ far) (hf1 : far ≤ 9223372036854775807) :
    Calls Tryd.prog 9 #[.int .u64 (key : Int), v, .int .i64 far] w fun e w' => e = .returned (.bool true) ∧ Keeps (fun _ => False) w w' := by
  have HN : Hd (NibR w) := hid hN
  have HX := hid hx; have HKY := hid hkey
  obtain ⟨va, vc, rfl, hvc, hvm⟩ := hv.form
  have HV := hid hv
  have hpos := NibR.pos (hN : NibR w)
  clear hN hx hv hkey
  obtain ⟨L, hL⟩ : ∃ L, l.length = L := ⟨_, rfl⟩
  have HL := hid hL
  rw [hL] at HV hvc ⊢
  clear hL
  go_enter Tryd.func9, Tryd.ntmps9
  go_wp2_with fail
  refine (begin_any key _).mono ?_
  rintro e U1 ⟨p, rfl, hw0, hk0⟩
  have HW0 := hid hw0; have HK0 := hid hk0
  clear hw0 hk0
  go_wp2_with fail
  go_loopw [8] (fun iv wr => ∃ i : Nat, iv = .int .i64 (i : Int) ∧ i ≤ L ∧ i ≤ 60 ∧ Hd (WRx (fun b => w.heap.size ≤ b) (fun _ => True) wr p (hist key l i)) ∧ Hd (Keeps (fun b => w.heap.size ≤ b) w wr)) (fun iv _ => 60 - (intOf iv).toNat)
  case atStart => exact ⟨0, rfl, Nat.zero_le _, Nat.zero_le _, HW0, hid (HK0.out.mono (fun _ _ h => h.elim))⟩
  case round =>
    obtain ⟨V, rfl⟩ : ∃ V, V = wr := ⟨_, rfl⟩
    obtain ⟨i, rfl, hi1, hi2, HW, HK⟩ := hrel
    clear HW0 HK0
    have q0 : (0 : Int) ≤ i := by omega
    have HGO : Hd (i = L ∨ i = 60 → ∃ m, WInv key m i ∧ WOk m i ∧ WRx (fun b => w.heap.size ≤ b) (fun _ => True) V p m) := hid (fun _ => ⟨_, (hist_ok HKY.out HX.out i (by omega) (by rw [HL.out]; omega)).1, (hist_ok HKY.out HX.out i (by omega) (by rw [HL.out]; omega)).2, HW.out⟩)
    by_cases hgo : i < L ∧ i < 60
    · obtain ⟨hlt, hlt2⟩ := hgo
      have q1 : (i : Int) < L := by omega
      have q2 : (i : Int) < 60 := by omega
      have hil : i < l.length := by rw [HL.out]; exact hlt
      obtain ⟨x, hxi⟩ : ∃ x, l[i]? = some x := ⟨_, List.getElem?_eq_getElem hil⟩
      have HXI := hid hxi
      have HXO := hid (HX.out x (List.mem_of_getElem? hxi))
      have HVV := hid (HV.out.keep HK.out (fun b h1 h2 h3 => by omega))
      obtain ⟨vb, vo, eva, hvb, hvb2, hcx⟩ := acs_cells HVV.out (by omega)
      subst eva
      obtain ⟨c0, c1, c2, ad, cd, c3, hsx⟩ := hcx i x hxi
      have HSX := hid hsx
      clear hcx hsx hxi hil
      obtain ⟨xl, hxl⟩ : ∃ n, x.b.length = n := ⟨_, rfl⟩
      have HXL := hid hxl
      rw [hxl] at HSX c3
      clear hxl
      have HAC : Hd (Calls Tryd.prog 31 #[.pointer (some ⟨p, 0, none⟩), .agg #[.int .i64 x.kd, .int .i64 x.n, .int .i64 x.m, .slice ad xl cd]] V fun e w' => e = .returned (.tuple #[]) ∧ WRx (fun b => w.heap.size ≤ b) (fun _ => True) w' p (hist key l (i + 1)) ∧ Keeps (fun b => w.heap.size ≤ b) V w') := hid (by
        have g := hist_ok HKY.out HX.out i (by omega) (by rw [HL.out]; omega)
        have zk := HK.out.size
        have h := act_any key (hist key l i) i p x ad cd (fun b => w.heap.size ≤ b) (fun _ => True) _ V HW.out (fun b hb => ⟨by omega, trivial⟩) HXO.out (by rw [HXL.out]; exact HSX.out) g.1 g.2 (by omega)
        rw [← hist_next HXI.out, HXL.out] at h
        exact h)
      go_wp2_with fail
      refine HAC.out.mono ?_
      rintro e V2 ⟨rfl, hw2, hk2⟩
      have HK2 := hid (HK.out.trans hk2); have HW2 := hid hw2
      clear c0 c1 c2 c3 HAC HW HK hk2 hw2 HVV HGO
      go_wp2
      go_roundw
      case rel => exact ⟨i + 1, by go_num, by omega, by omega, HW2, HK2⟩
      case measure => simp [intOf]; omega
    · obtain ⟨M, hM1, hM2, hM3⟩ := HGO.out (by omega)
      have HM1 := hid (winv_mono hM1 hi2); have HM2 := hid (hM2.mono hi2); have HM3 := hid hM3
      clear hM1 hM2 hM3 HW HGO
      go_upto_region 3 with fail
      go_cut [24] from 17 to 24 (fun u24 wx => u24 = .bool false ∧ V = wx)
      case first =>
        by_cases hlt : i < L
        · have q1 : (i : Int) < L := by omega
          have q2 : ¬ ((i : Int) < 60) := by omega
          go_wp2_with fail
          go_meet
          exact ⟨rfl, rfl⟩
        · have q1 : ¬ ((i : Int) < L) := by omega
          go_wp2_with fail
          go_meet
          exact ⟨rfl, rfl⟩
      case rest =>
      obtain ⟨rfl, rfl⟩ := hcut
      clear hgo
      obtain ⟨sa, sc, aa, ac, fa, fc, ra, rc, ga, gc, hw⟩ := HM3.out
      have HW := hid hw
      have HML := hid (WR.lt hw)
      clear hw
      have zV := HK.out.size
      have HI := HM1; have HO := HM2
      have hnx0 := HI.out.r.n0; have hnx1 := HI.out.r.n1; have ha0 := HI.out.a0; have ha1 := HI.out.a1; have hbn := HI.out.bn; have hki0 := HI.out.r.kd.1; have hki1 := HI.out.r.ki; have hli := HI.out.li
      have hfsl : M.r.fs.length ≤ 15 := HO.out.r.len
      have hfq : Hd (∀ y ∈ M.r.fs, M.r.nx < y.q ∧ y.q ≤ M.r.nx + 15) := hid (fun y hy => by have h := HI.out.r.fs y hy; exact ⟨h.1, h.2.1⟩)
      have HLOK : Hd (M.s.l.ok) := hid (HO.out.lok HI.out (by omega))
      have hcf : confL M.s.l M.r.l.i = M.s.l := conf_same hki1
      have hak : ackN M.s.a M.r.nx M.s.bs.length = M.r.nx := by unfold ackN; omega
      obtain ⟨hv, hhv⟩ : ∃ h, havI M.r.nx M.r.fs = h := ⟨_, rfl⟩
      have HHV := hid hhv
      clear hhv
      obtain ⟨MM, hMM⟩ : ∃ x, x = M := ⟨_, rfl⟩
      have HMM := hid hMM
      have HFA := hid (far_recv HI.out (by omega) far)
      have HFB := hid (far2_recv HI.out (by omega) far)
      have HFC := hid (unl_recv HI.out (by omega) far)
      have HUW := hid (unl_winv HI.out)
      rw [← hMM] at HI HFA HFB HFC HUW
      clear hMM
      have HBP := hid HW.out.blk
      have HSB := hid HW.out.sb
      have HAH := hid HW.out.ah
      clear HM1 HM2 HM3
      obtain ⟨⟨bs, a, ⟨k2, i2⟩⟩, ⟨nx, fs, lk, ⟨rk, ri⟩⟩, FSq, RP, GT⟩ := M
      simp only [] at HBP HSB HAH HO HW hnx0 hnx1 ha0 ha1 hbn hki0 hki1 hli hfsl hfq HLOK hcf hak HHV
      obtain ⟨sn, hsn⟩ : ∃ n, bs.length = n := ⟨_, rfl⟩
      have N_sn := hid hsn
      rw [hsn] at HBP HSB hbn hnx1 hak
      clear hsn
      obtain ⟨fn, hfn⟩ : ∃ n, fs.length = n := ⟨_, rfl⟩
      have N_fn := hid hfn
      rw [hfn] at HBP HAH hfsl
      clear hfn
      obtain ⟨f2n, hf2n⟩ : ∃ n, FSq.length = n := ⟨_, rfl⟩
      have N_f2n := hid hf2n
      rw [hf2n] at HBP
      clear hf2n
      obtain ⟨rpn, hrpn⟩ : ∃ n, RP.length = n := ⟨_, rfl⟩
      have N_rpn := hid hrpn
      rw [hrpn] at HBP
      clear hrpn
      obtain ⟨gn, hgn⟩ : ∃ n, GT.length = n := ⟨_, rfl⟩
      have N_gn := hid hgn
      rw [hgn] at HBP
      clear hgn
      have HST : Hd (∀ X, Keeps (fun _ => False) V X → Calls Tryd.prog 28 #[.agg #[.int .i64 nx, .slice aa fn ac, .bool lk, .int .u64 (rk : Int), .int .i64 ri]] X fun e w' => e = .returned (.agg #[.int .i64 nx, .int .i64 hv, .int .i64 ri, .bool lk]) ∧ Keeps (fun _ => False) X w') := hid (fun X hx => by have h := State_any fs aa ac nx lk ⟨rk, ri⟩ _ X (by rw [N_fn.out]; exact HAH.out.keep hx (fun _ _ _ h => h)) (by rw [N_fn.out]; omega) hnx0 (by omega) (fun y hy => by have h := hfq.out y hy; exact ⟨h.1, by have := h.2; omega⟩); rw [HHV.out, N_fn.out] at h; exact h)
      have HCF : Hd (∀ X, Keeps (fun _ => False) V X → Calls Tryd.prog 44 #[.agg #[.slice sa sn sc, .int .i64 a, .int .u64 (k2 : Int), .int .i64 i2], .agg #[.int .i64 nx, .int .i64 hv, .int .i64 ri, .bool lk]] X fun e w' => ∃ a2 c2, e = .returned (.agg #[.slice a2 sn c2, .int .i64 nx, .int .u64 (k2 : Int), .int .i64 i2]) ∧ Bds (fun b => X.heap.size ≤ b) w' (.slice a2 sn c2) bs ∧ Keeps (fun _ => False) X w') := hid (fun X hx => by have h := Confirm_any bs sa sc a ⟨k2, i2⟩ nx hv ri lk _ X (by rw [N_sn.out]; exact HSB.out.keep hx (fun _ _ _ h => h)) (by rw [N_sn.out]; omega) (by have h := HI.out.bl; rw [HMM.out] at h; exact h) HLOK.out (by omega); unfold ConfR at h; rw [hcf, N_sn.out, hak] at h; exact h)
      go_upto_region 6 with fail
      go_cut [] from 33 to 45 (fun wx => ∃ (a2 : Option Addr) (c2 : Nat), Hd (Blk wx p #[(.slice a2 sn c2), (.int .i64 nx), (.int .u64 (k2 : Int)), (.int .i64 i2), (.int .i64 nx), (.slice aa fn ac), (.bool lk), (.int .u64 (rk : Int)), (.int .i64 ri), (.slice fa f2n fc), (.slice ra rpn rc), (.slice ga gn gc)] 60) ∧ Hd (Bds (fun b => V.heap.size ≤ b) wx (.slice a2 sn c2) bs) ∧ Hd (Keeps (fun b => b = p) V wx))
      case first =>
        have HSS : Hd (∀ w', Keeps (fun _ => False) V w' → (w'.cell? ⟨p, 4, none⟩ = some (.int .i64 nx) ∧ w'.cell? ⟨p, 5, none⟩ = some (.slice aa fn ac) ∧ w'.cell? ⟨p, 6, none⟩ = some (.bool lk) ∧ w'.cell? ⟨p, 7, none⟩ = some (.int .u64 (rk : Int)) ∧ w'.cell? ⟨p, 8, none⟩ = some (.int .i64 ri))) := hid (fun w' hk => ⟨blk_cell (blk_keep HBP.out hk (fun h => h)) 4, blk_cell (blk_keep HBP.out hk (fun h => h)) 5, blk_cell (blk_keep HBP.out hk (fun h => h)) 6, blk_cell (blk_keep HBP.out hk (fun h => h)) 7, blk_cell (blk_keep HBP.out hk (fun h => h)) 8⟩)
        have KC : Hd (Keeps (fun _ => False) V V) := hid (Keeps.refl _ _)
        have o_HBP_0 : V.cell? ⟨p, 0, none⟩ = some ((.slice sa sn sc)) := blk_cell HBP.out 0
        have o_HBP_1 : V.cell? ⟨p, 1, none⟩ = some ((.int .i64 a)) := blk_cell HBP.out 1
        have o_HBP_2 : V.cell? ⟨p, 2, none⟩ = some ((.int .u64 (k2 : Int))) := blk_cell HBP.out 2
        have o_HBP_3 : V.cell? ⟨p, 3, none⟩ = some ((.int .i64 i2)) := blk_cell HBP.out 3
        rw [ldW_eq]
        go_region_held (fun w' => w'.cell? ⟨p, 4, none⟩ = some (.int .i64 nx) ∧ w'.cell? ⟨p, 5, none⟩ = some (.slice aa fn ac) ∧ w'.cell? ⟨p, 6, none⟩ = some (.bool lk) ∧ w'.cell? ⟨p, 7, none⟩ = some (.int .u64 (rk : Int)) ∧ w'.cell? ⟨p, 8, none⟩ = some (.int .i64 ri)) (first | (refine HSS.out _ ?_; (repeat (first | (with_reducible exact KC.out) | (with_reducible exact Keeps.refl _ _) | (with_reducible apply Keeps.drewN) | (with_reducible apply Keeps.drew) | (with_reducible apply Keeps.alloc))); done) | (refine set03_5 (HSS.out _ ?_); (repeat (first | (with_reducible exact KC.out) | (with_reducible exact Keeps.refl _ _) | (with_reducible apply Keeps.drewN) | (with_reducible apply Keeps.drew) | (with_reducible apply Keeps.alloc))); done))
          (first
          | (go_at_call 28; (refine (HST.out _ (by repeat (first | (with_reducible exact KC.out) | (with_reducible exact Keeps.refl _ _) | (with_reducible apply Keeps.drewN) | (with_reducible apply Keeps.drew) | (with_reducible apply Keeps.alloc)))).mono ?_); rintro e wy0 ⟨rfl, hk⟩; have KC2 : Hd (Keeps (fun _ => False) V wy0) := hid (Keeps.trans (S := fun _ => False) (by repeat (first | (with_reducible exact KC.out) | (with_reducible exact Keeps.refl _ _) | (with_reducible apply Keeps.drewN) | (with_reducible apply Keeps.drew) | (with_reducible apply Keeps.alloc))) hk); replace KC := KC2; clear KC2; replace hk := hid hk; have cz0 : wy0.cell? ⟨p, 0, none⟩ = some (.slice sa sn sc) := blk_cell (blk_keep HBP.out KC.out (fun h => h)) 0; have fz0 : wy0.frozen? ⟨p, 0, none⟩ = false := blk_free (blk_keep HBP.out KC.out (fun h => h)) 0; have cz1 : wy0.cell? ⟨p, 1, none⟩ = some (.int .i64 a) := blk_cell (blk_keep HBP.out KC.out (fun h => h)) 1; have fz1 : wy0.frozen? ⟨p, 1, none⟩ = false := blk_free (blk_keep HBP.out KC.out (fun h => h)) 1; have cz2 : wy0.cell? ⟨p, 2, none⟩ = some (.int .u64 (k2 : Int)) := blk_cell (blk_keep HBP.out KC.out (fun h => h)) 2; have fz2 : wy0.frozen? ⟨p, 2, none⟩ = false := blk_free (blk_keep HBP.out KC.out (fun h => h)) 2; have cz3 : wy0.cell? ⟨p, 3, none⟩ = some (.int .i64 i2) := blk_cell (blk_keep HBP.out KC.out (fun h => h)) 3; have fz3 : wy0.frozen? ⟨p, 3, none⟩ = false := blk_free (blk_keep HBP.out KC.out (fun h => h)) 3)
          | (go_at_call 44; (refine (HCF.out _ (by repeat (first | (with_reducible exact KC.out) | (with_reducible exact Keeps.refl _ _) | (with_reducible apply Keeps.drewN) | (with_reducible apply Keeps.drew) | (with_reducible apply Keeps.alloc)))).mono ?_); rintro e wy1 ⟨a2, c2, rfl, hbd, hk⟩; have HBD := hid ((bds_after hbd (n := V.heap.size) (by first | exact Nat.le_refl _ | (simp; done) | (simp; omega) | (have := KC.out.size; (try simp); omega) | fail)) _ (Keeps.refl _ _)); clear hbd; have KC2 : Hd (Keeps (fun _ => False) V wy1) := hid (Keeps.trans (S := fun _ => False) (by repeat (first | (with_reducible exact KC.out) | (with_reducible exact Keeps.refl _ _) | (with_reducible apply Keeps.drewN) | (with_reducible apply Keeps.drew) | (with_reducible apply Keeps.alloc))) hk); replace KC := KC2; clear KC2; replace hk := hid hk; have cz0 : wy1.cell? ⟨p, 0, none⟩ = some (.slice sa sn sc) := blk_cell (blk_keep HBP.out KC.out (fun h => h)) 0; have fz0 : wy1.frozen? ⟨p, 0, none⟩ = false := blk_free (blk_keep HBP.out KC.out (fun h => h)) 0; have cz1 : wy1.cell? ⟨p, 1, none⟩ = some (.int .i64 a) := blk_cell (blk_keep HBP.out KC.out (fun h => h)) 1; have fz1 : wy1.frozen? ⟨p, 1, none⟩ = false := blk_free (blk_keep HBP.out KC.out (fun h => h)) 1; have cz2 : wy1.cell? ⟨p, 2, none⟩ = some (.int .u64 (k2 : Int)) := blk_cell (blk_keep HBP.out KC.out (fun h => h)) 2; have fz2 : wy1.frozen? ⟨p, 2, none⟩ = false := blk_free (blk_keep HBP.out KC.out (fun h => h)) 2; have cz3 : wy1.cell? ⟨p, 3, none⟩ = some (.int .i64 i2) := blk_cell (blk_keep HBP.out KC.out (fun h => h)) 3; have fz3 : wy1.frozen? ⟨p, 3, none⟩ = false := blk_free (blk_keep HBP.out KC.out (fun h => h)) 3))
        all_goals
          go_wp2_with fail
          go_meet
          have k9 := keep4' wy1 p 0 1 2 3 (.slice a2 sn c2) (.int .i64 nx) (.int .u64 (k2 : Int)) (.int .i64 i2)
          exact ⟨a2, c2, hid (blk_set (blk_set (blk_set (blk_set (blk_keep HBP.out KC.out (fun h => h)) 0 _) 1 _) 2 _) 3 _), hid (HBD.out.keep k9 (fun b _ h1 h2 => by have := HML.out p (.inl rfl); omega)), hid ((KC.out.mono (fun _ _ h => h.elim)).trans' k9 (fun _ _ h => h))⟩
      case rest =>
      obtain ⟨a2, c2, HB9, HD9, HK9⟩ := hcut
      generalize wc = W41 at *
      have HW9 : Hd (WR (fun b => w.heap.size ≤ b) (fun _ => True) W41 p ⟨⟨bs, nx, ⟨k2, i2⟩⟩, ⟨nx, fs, lk, ⟨rk, ri⟩⟩, FSq, RP, GT⟩ a2 c2 aa ac fa fc ra rc ga gc) := hid (HW.out.upS HK9.out (s := ⟨bs, nx, ⟨k2, i2⟩⟩) (sa2 := a2) (sc2 := c2) (by simp only [N_sn.out, N_fn.out, N_f2n.out, N_rpn.out, N_gn.out]; exact HB9.out) (by simp only [N_sn.out]; exact HD9.out.mono (fun b _ h => ⟨trivial, fun e => by have := HML.out b e; omega⟩)))
      have z_W41 := HK9.out.size
      have HKK : Hd (Keeps (fun b => w.heap.size ≤ b) w W41) := hid (HK.out.trans' HK9.out (fun i hi h => by rw [h]; exact HW.out.k p (.inl rfl)))
      clear HBP HW HSB HAH HCF HST HD9 HK9 HK
      have HBP := HB9; have HW := HW9
      clear HB9 HW9
      obtain ⟨ar, har⟩ : ∃ k, around far 112 = k := ⟨_, rfl⟩
      have HARD := hid har
      have hab := around_b far (show (1 : Int) ≤ 112 by omega)
      rw [har] at hab
      clear har
      have hs1 : IntKind.i64.wrap (nx + 16) = nx + 16 := IntWalk.i64_in _ (by omega)
      have hs2 : IntKind.i64.wrap (nx + 16 + ar) = nx + 16 + ar := IntWalk.i64_in _ (by omega)
      have HAR : Hd (∀ X, Calls Tryd.prog 22 #[.int .i64 far, .int .i64 112] X fun e w' => e = .returned (.int .i64 ar) ∧ Keeps (fun _ => False) X w') := hid (fun X => by have h := around_K far 112 X hf0 hf1 (by decide) (by decide); rw [HARD.out] at h; exact h)
      go_upto_region 7 with fail
      go_cut [9] from 46 to 61 (fun u9 wx => ∃ bF, u9 = .pointer (some ⟨bF, 0, none⟩) ∧ W41.heap.size ≤ bF ∧ Hd (Blk wx bF #[(.int .i64 (nx + 16 + ar)), (.int .i64 i2), (.bool false), (.slice none 0 0), (.int .u64 ((0 : Nat) : Int))] 25) ∧ Hd (Keeps (fun _ => False) W41 wx))
      case first =>
        refine wp_many (C := mkMC 7 [7, 8, 15, 17] [(16, 25, #[(.int .i64 0), (.int .i64 0), (.bool false), (.slice none 0 0), (.int .u64 0)])] [(17, 16, 15)] [(fun _ => .pointer (some ⟨p, 0, none⟩)), (fun _ => .pointer (some ⟨p, 0, none⟩)), (fun _ => .pointer (some ⟨p, 4, none⟩)), (fun _ => .pointer (some ⟨p, 4, none⟩)), (fun _ => .int .i64 nx), (fun _ => .int .i64 (nx + 16)), (fun _ => .int .i64 far), (fun r => r), (fun r => .int .i64 (nx + 16 + ar)), (fun _ => .pointer (some ⟨p, 0, none⟩)), (fun _ => .pointer (some ⟨p, 0, none⟩)), (fun _ => .pointer (some ⟨p, 0, none⟩)), (fun _ => .pointer (some ⟨p, 2, none⟩)), (fun _ => .pointer (some ⟨p, 3, none⟩)), (fun _ => .int .i64 i2), (fun r => .agg #[(.int .i64 (nx + 16 + ar)), (.int .i64 i2), (.bool false), (.slice none 0 0), (.int .u64 ((0 : Nat) : Int))]), (fun _ => undef), (fun _ => undef)] (fun _ _ => #[(.int .i64 (nx + 16 + ar)), (.int .i64 i2), (.bool false), (.slice none 0 0), (.int .u64 ((0 : Nat) : Int))]) (knR (.int .i64 ar))) (by kernel_rfl) ?H ?HV 7 rfl ?HC ?HE
        case H =>
          refine { back := by kernel_rfl, dst := uniqB_spec (by kernel_rfl), szd := underB_spec (by kernel_rfl), val := valB_spec3 (f := mkV [(16, 25, #[(.int .i64 0), (.int .i64 0), (.bool false), (.slice none 0 0), (.int .u64 0)])] [(17, 16, 15)]) (by kernel_rfl), alo := ?_, sto := ?_, stc := ?_, all := allB3_spec (f := mkV [(16, 25, #[(.int .i64 0), (.int .i64 0), (.bool false), (.slice none 0 0), (.int .u64 0)])] [(17, 16, 15)]) (g := mkA [(16, 25, #[(.int .i64 0), (.int .i64 0), (.bool false), (.slice none 0 0), (.int .u64 0)])]) (h := mkS [(17, 16, 15)]) (by kernel_rfl), nva := ?_, nvs := ?_, one := ?_, civ := rfl, nd := ?_, cd := rfl, dd := ?_, sem := kfSem _ _ _ _ _ _ _ _ _ _ _ _ _ _ rfl }
          · intro j o h0 ha
            have h1 : 16 = j := by simpa [mkMC] using ha
            subst h1
            all_goals
              have h2 := h0
              simp only [List.getElem?_cons_succ, List.getElem?_cons_zero, Option.some.injEq] at h2
              subst h2
              exact ⟨⟨_, rfl⟩, rfl, rfl⟩
          · intro s o h0 ha
            have h1 : 17 = s := by simpa [mkMC] using ha
            subst h1
            all_goals
              have h2 := h0
              simp only [List.getElem?_cons_succ, List.getElem?_cons_zero, Option.some.injEq] at h2
              subst h2
              exact ⟨_, _, _, _, rfl, rfl, rfl, rfl, rfl, rfl, rfl, waitsB_spec (by kernel_rfl), waitsB_spec (by kernel_rfl)⟩
          · intro s ha
            have h1 : 17 = s := by simpa [mkMC] using ha
            subst h1
            all_goals exact ⟨rfl, rfl, rfl, rfl⟩
          · intro s ha
            have h1 : 16 = s := by simpa [mkMC] using ha
            subst h1
            all_goals exact ⟨rfl, rfl, rfl⟩
          · intro s ha
            have h1 : 17 = s := by simpa [mkMC] using ha
            subst h1
            all_goals exact ⟨rfl, rfl⟩
          · intro s t ha hb hst
            have h1 : 17 = s := by simpa [mkMC] using ha
            subst h1
            all_goals (have h2 : 17 = t := by simpa [mkMC] using hb)
            exact h2
          · intro i r r' hv hD
            match i, hD with
            | 0, _ => rfl
            | 1, _ => rfl
            | 2, _ => rfl
            | 3, _ => rfl
            | 4, _ => rfl
            | 5, _ => rfl
            | 6, _ => rfl
            | 7, h => exact absurd h (by simp [mkMC])
            | 8, h => exact absurd h (by simp [mkMC])
            | 9, _ => rfl
            | 10, _ => rfl
            | 11, _ => rfl
            | 12, _ => rfl
            | 13, _ => rfl
            | 14, _ => rfl
            | 15, h => exact absurd h (by simp [mkMC])
            | 16, _ => rfl
            | 17, h => exact absurd h (by simp [mkMC])
            | n + 18, _ => rfl
          · intro i o h0 hD hne
            match i, h0, hD, hne with
            | 0, _, hD, _ => exact absurd hD (by simp [mkMC])
            | 1, _, hD, _ => exact absurd hD (by simp [mkMC])
            | 2, _, hD, _ => exact absurd hD (by simp [mkMC])
            | 3, _, hD, _ => exact absurd hD (by simp [mkMC])
            | 4, _, hD, _ => exact absurd hD (by simp [mkMC])
            | 5, _, hD, _ => exact absurd hD (by simp [mkMC])
            | 6, _, hD, _ => exact absurd hD (by simp [mkMC])
            | 7, _, _, hne => exact absurd rfl hne
            | 8, h0, _, _ =>
              simp only [List.getElem?_cons_succ, List.getElem?_cons_zero, Option.some.injEq] at h0
              subst h0
              exact ⟨7, waitsB_spec (by kernel_rfl), rfl⟩
            | 9, _, hD, _ => exact absurd hD (by simp [mkMC])
            | 10, _, hD, _ => exact absurd hD (by simp [mkMC])
            | 11, _, hD, _ => exact absurd hD (by simp [mkMC])
            | 12, _, hD, _ => exact absurd hD (by simp [mkMC])
            | 13, _, hD, _ => exact absurd hD (by simp [mkMC])
            | 14, _, hD, _ => exact absurd hD (by simp [mkMC])
            | 15, h0, _, _ =>
              simp only [List.getElem?_cons_succ, List.getElem?_cons_zero, Option.some.injEq] at h0
              subst h0
              exact ⟨8, waitsB_spec (by kernel_rfl), rfl⟩
            | 16, _, hD, _ => exact absurd hD (by simp [mkMC])
            | 17, h0, _, _ =>
              simp only [List.getElem?_cons_succ, List.getElem?_cons_zero, Option.some.injEq] at h0
              subst h0
              exact ⟨15, waitsB_spec (by kernel_rfl), rfl⟩
            | n + 18, h0, _, _ => simp at h0
        case HV =>
          intro iq o hv hne hi aq w' r hk hd hR
          match iq, hv, hne, hi, hR with
          | 0, _, _, hi, hR =>
            have hi1 := hi
            simp only [List.getElem?_cons_succ, List.getElem?_cons_zero, Option.some.injEq] at hi1
            subst hi1
            have e0 : aq.eval (.tmp 7) = .pointer (some ⟨p, 0, none⟩) := (hd.out (by kernel_rfl)).trans rfl
            exact wpOp_ranL hi rfl (v := .pointer (some ⟨p, 0, none⟩)) (w' := w') (by simp only [execOp, e0]; rfl) ⟨rfl, Keeps.refl _ _⟩
          | 1, _, _, hi, hR =>
            have hi1 := hi
            simp only [List.getElem?_cons_succ, List.getElem?_cons_zero, Option.some.injEq] at hi1
            subst hi1
            have e0 : aq.eval (.tmp 46) = .pointer (some ⟨p, 0, none⟩) := hd.val (j := 0) (by kernel_rfl) rfl rfl rfl
            exact wpOp_ranL hi rfl (v := .pointer (some ⟨p, 0, none⟩)) (w' := w') (by simp only [execOp, e0]; rfl) ⟨rfl, Keeps.refl _ _⟩
          | 2, _, _, hi, hR =>
            have hi1 := hi
            simp only [List.getElem?_cons_succ, List.getElem?_cons_zero, Option.some.injEq] at hi1
            subst hi1
            have e0 : aq.eval (.tmp 47) = .pointer (some ⟨p, 0, none⟩) := hd.val (j := 1) (by kernel_rfl) rfl rfl rfl
            exact wpOp_ranL hi rfl (v := .pointer (some ⟨p, 4, none⟩)) (w' := w') (by simp only [execOp, e0]; go_simp) ⟨rfl, Keeps.refl _ _⟩
          | 3, _, _, hi, hR =>
            have hi1 := hi
            simp only [List.getElem?_cons_succ, List.getElem?_cons_zero, Option.some.injEq] at hi1
            subst hi1
            have e0 : aq.eval (.tmp 48) = .pointer (some ⟨p, 4, none⟩) := hd.val (j := 2) (by kernel_rfl) rfl rfl rfl
            exact wpOp_ranL hi rfl (v := .pointer (some ⟨p, 4, none⟩)) (w' := w') (by simp only [execOp, e0]; go_simp) ⟨rfl, Keeps.refl _ _⟩
          | 4, _, _, hi, hR =>
            have hi1 := hi
            simp only [List.getElem?_cons_succ, List.getElem?_cons_zero, Option.some.injEq] at hi1
            subst hi1
            have e0 : aq.eval (.tmp 49) = .pointer (some ⟨p, 4, none⟩) := hd.val (j := 3) (by kernel_rfl) rfl rfl rfl
            have c0 := keep_cell hk (fun h => h) (blk_cell HBP.out 4)
            exact wpOp_ranL hi rfl (v := .int .i64 nx) (w' := w') (by simp only [execOp, e0]; go_simp) ⟨rfl, Keeps.refl _ _⟩
          | 5, _, _, hi, hR =>
            have hi1 := hi
            simp only [List.getElem?_cons_succ, List.getElem?_cons_zero, Option.some.injEq] at hi1
            subst hi1
            have e0 : aq.eval (.tmp 50) = .int .i64 nx := hd.val (j := 4) (by kernel_rfl) rfl rfl rfl
            exact wpOp_ranL hi rfl (v := .int .i64 (nx + 16)) (w' := w') (by simp only [execOp, e0]; go_simp) ⟨rfl, Keeps.refl _ _⟩
          | 6, _, _, hi, hR =>
            have hi1 := hi
            simp only [List.getElem?_cons_succ, List.getElem?_cons_zero, Option.some.injEq] at hi1
            subst hi1
            have e0 : aq.eval (.tmp 2) = .int .i64 far := (hd.out (by kernel_rfl)).trans rfl
            exact wpOp_ranL hi rfl (v := .int .i64 far) (w' := w') (by simp only [execOp, e0]; rfl) ⟨rfl, Keeps.refl _ _⟩
          | 7, _, hne, _, _ => exact absurd rfl hne
          | 8, _, _, hi, hR =>
            have hi1 := hi
            simp only [List.getElem?_cons_succ, List.getElem?_cons_zero, Option.some.injEq] at hi1
            subst hi1
            obtain ⟨K, rfl⟩ := hR rfl
            have e0 : aq.eval (.tmp 51) = .int .i64 (nx + 16) := hd.val (j := 5) (by kernel_rfl) rfl rfl rfl
            have e1 : aq.eval (.tmp 53) = .int .i64 ar := hd.val (j := 7) (by kernel_rfl) rfl rfl rfl
            exact wpOp_ranL hi rfl (v := .int .i64 (nx + 16 + ar)) (w' := w') (by simp only [execOp, e0, e1]; go_simp) ⟨rfl, Keeps.refl _ _⟩
          | 9, _, _, hi, hR =>
            have hi1 := hi
            simp only [List.getElem?_cons_succ, List.getElem?_cons_zero, Option.some.injEq] at hi1
            subst hi1
            have e0 : aq.eval (.tmp 7) = .pointer (some ⟨p, 0, none⟩) := (hd.out (by kernel_rfl)).trans rfl
            exact wpOp_ranL hi rfl (v := .pointer (some ⟨p, 0, none⟩)) (w' := w') (by simp only [execOp, e0]; rfl) ⟨rfl, Keeps.refl _ _⟩
          | 10, _, _, hi, hR =>
            have hi1 := hi
            simp only [List.getElem?_cons_succ, List.getElem?_cons_zero, Option.some.injEq] at hi1
            subst hi1
            have e0 : aq.eval (.tmp 55) = .pointer (some ⟨p, 0, none⟩) := hd.val (j := 9) (by kernel_rfl) rfl rfl rfl
            exact wpOp_ranL hi rfl (v := .pointer (some ⟨p, 0, none⟩)) (w' := w') (by simp only [execOp, e0]; rfl) ⟨rfl, Keeps.refl _ _⟩
          | 11, _, _, hi, hR =>
            have hi1 := hi
            simp only [List.getElem?_cons_succ, List.getElem?_cons_zero, Option.some.injEq] at hi1
            subst hi1
            have e0 : aq.eval (.tmp 56) = .pointer (some ⟨p, 0, none⟩) := hd.val (j := 10) (by kernel_rfl) rfl rfl rfl
            exact wpOp_ranL hi rfl (v := .pointer (some ⟨p, 0, none⟩)) (w' := w') (by simp only [execOp, e0]; go_simp) ⟨rfl, Keeps.refl _ _⟩
          | 12, _, _, hi, hR =>
            have hi1 := hi
            simp only [List.getElem?_cons_succ, List.getElem?_cons_zero, Option.some.injEq] at hi1
            subst hi1
            have e0 : aq.eval (.tmp 57) = .pointer (some ⟨p, 0, none⟩) := hd.val (j := 11) (by kernel_rfl) rfl rfl rfl
            exact wpOp_ranL hi rfl (v := .pointer (some ⟨p, 2, none⟩)) (w' := w') (by simp only [execOp, e0]; go_simp) ⟨rfl, Keeps.refl _ _⟩
          | 13, _, _, hi, hR =>
            have hi1 := hi
            simp only [List.getElem?_cons_succ, List.getElem?_cons_zero, Option.some.injEq] at hi1
            subst hi1
            have e0 : aq.eval (.tmp 58) = .pointer (some ⟨p, 2, none⟩) := hd.val (j := 12) (by kernel_rfl) rfl rfl rfl
            exact wpOp_ranL hi rfl (v := .pointer (some ⟨p, 3, none⟩)) (w' := w') (by simp only [execOp, e0]; go_simp) ⟨rfl, Keeps.refl _ _⟩
          | 14, _, _, hi, hR =>
            have hi1 := hi
            simp only [List.getElem?_cons_succ, List.getElem?_cons_zero, Option.some.injEq] at hi1
            subst hi1
            have e0 : aq.eval (.tmp 59) = .pointer (some ⟨p, 3, none⟩) := hd.val (j := 13) (by kernel_rfl) rfl rfl rfl
            have c0 := keep_cell hk (fun h => h) (blk_cell HBP.out 3)
            exact wpOp_ranL hi rfl (v := .int .i64 i2) (w' := w') (by simp only [execOp, e0]; go_simp) ⟨rfl, Keeps.refl _ _⟩
          | 15, _, _, hi, hR =>
            have hi1 := hi
            simp only [List.getElem?_cons_succ, List.getElem?_cons_zero, Option.some.injEq] at hi1
            subst hi1
            obtain ⟨K, rfl⟩ := hR rfl
            have e0 : aq.eval (.tmp 54) = .int .i64 (nx + 16 + ar) := hd.val (j := 8) (by kernel_rfl) rfl rfl rfl
            have e1 : aq.eval (.tmp 60) = .int .i64 i2 := hd.val (j := 14) (by kernel_rfl) rfl rfl rfl
            exact wpOp_ranL hi rfl (v := .agg #[(.int .i64 (nx + 16 + ar)), (.int .i64 i2), (.bool false), (.slice none 0 0), (.int .u64 ((0 : Nat) : Int))]) (w' := w') (by simp only [execOp, List.map_toArray, List.map_cons, List.map_nil, e0, e1]; go_simp) ⟨rfl, Keeps.refl _ _⟩
          | 16, hv, _, _, _ => cases hv
          | 17, hv, _, _, _ => cases hv
          | n + 18, _, _, hi, _ => simp at hi
        case HC =>
          intro o hi aq w' r hk hd
          have hi1 := hi
          simp only [List.getElem?_cons_succ, List.getElem?_cons_zero, Option.some.injEq] at hi1
          subst hi1
          have e0 : aq.eval (.tmp 52) = .int .i64 far := hd.val (j := 6) (by kernel_rfl) rfl rfl rfl
          exact wpOp_callL hi rfl (f := 22) (args := #[.int .i64 far, .int .i64 112]) (by simp only [execOp_call_go, List.map_toArray, List.map_cons, List.map_nil, e0]; rfl) ((HAR.out _).mono (fun e w2 ⟨he, hk2⟩ => ⟨_, he, _, rfl, hk2, rfl⟩))
        case HE =>
          intro L aq w' gg r hL hT
          have em := act_mix (bs := [true, true, true, true, true, true, true, true, true, false, true, true, true, true, true, true, true, true, true, true, true, true, true, true, true, true, true, true, true, true, true, true, true, true, true, true, true, true, true, true, true, true, true, true, true, true, false, false, false, false, false, false, false, false, false, false, false, false, false, false, false, false, true, true, true, true, true, true, true, true, true, true, true, true, true, true, true, true, true, true, true, true, true, true, true, true, true, true, true, true, true, true, true, true, true, true, true, true, true, true, true, true, true, true, true, true, true, true, true, true, true, true, true, true, true, true, true, true, true, true, true, true, true, true, true, true, true, true, true, true, true, true, true, true, true, true, true, true, true, true, true, true, true, true, true, true, true, true, true, true, true, true, true, true, true, true, true, true, true, true, true, true, true, true, true, true, true, true, true, true, true, true, true, true, true, true, true, true, true, true, true, true, true, true, true, true, true, true, true, true, true, true, true, true, true, true, true, true, true, true, true, true, true, true, true, true, true, true]) hT.sz hT.df hT.fr rfl (by kernel_rfl)
          have hR := hT.c (hL 7 (by decide))
          obtain rfl := hR
          have kW := hT.kp
          obtain ⟨eA16, zA16, cs16, -, bA16, sA16⟩ := hT.al 16 rfl (hL 16 (by decide)) _ 9 rfl rfl
          have sA16 := sA16 17 rfl (hL 17 (by decide)) rfl
          subst sA16
          change aq.tmps.getD 9 undef = _ at eA16
          generalize gg 16 = g16 at *
          clear hT hL
          simp only [mix, eA16] at em
          clear eA16
          generalize aq.tmps.getD 46 undef = q46 at em
          generalize aq.tmps.getD 47 undef = q47 at em
          generalize aq.tmps.getD 48 undef = q48 at em
          generalize aq.tmps.getD 49 undef = q49 at em
          generalize aq.tmps.getD 50 undef = q50 at em
          generalize aq.tmps.getD 51 undef = q51 at em
          generalize aq.tmps.getD 52 undef = q52 at em
          generalize aq.tmps.getD 53 undef = q53 at em
          generalize aq.tmps.getD 54 undef = q54 at em
          generalize aq.tmps.getD 55 undef = q55 at em
          generalize aq.tmps.getD 56 undef = q56 at em
          generalize aq.tmps.getD 57 undef = q57 at em
          generalize aq.tmps.getD 58 undef = q58 at em
          generalize aq.tmps.getD 59 undef = q59 at em
          generalize aq.tmps.getD 60 undef = q60 at em
          generalize aq.tmps.getD 61 undef = q61 at em
          subst em
          simp only [Exit.then]
          go_wp2_with fail
          go_meet
          exact ⟨g16, rfl, zA16, hid bA16, hid kW⟩
      case rest =>
      obtain ⟨b_F, rfl, hb_F, B_F, hk⟩ := hcut
      replace hk := hk.out
      generalize wc = W42 at *
      have HWq : Hd (WR (fun b => w.heap.size ≤ b ∧ b ≠ b_F) (fun b => b ≠ b_F) W41 p ⟨⟨bs, nx, ⟨k2, i2⟩⟩, ⟨nx, fs, lk, ⟨rk, ri⟩⟩, FSq, RP, GT⟩ a2 c2 aa ac fa fc ra rc ga gc) := hid (HW.out.mono (fun b hb h => ⟨h, by omega⟩) (fun b hb _ => by omega))
      clear HW
      have HW := HWq
      clear HWq
      have HBP' : Hd (Blk W42 p #[(.slice a2 sn c2), (.int .i64 nx), (.int .u64 (k2 : Int)), (.int .i64 i2), (.int .i64 nx), (.slice aa fn ac), (.bool lk), (.int .u64 (rk : Int)), (.int .i64 ri), (.slice fa f2n fc), (.slice ra rpn rc), (.slice ga gn gc)] 60) := hid (blk_keep HBP.out hk (fun h => h))
      have HW' : Hd (WR (fun b => w.heap.size ≤ b ∧ b ≠ b_F) (fun b => b ≠ b_F) W42 p ⟨⟨bs, nx, ⟨k2, i2⟩⟩, ⟨nx, fs, lk, ⟨rk, ri⟩⟩, FSq, RP, GT⟩ a2 c2 aa ac fa fc ra rc ga gc) := hid (HW.out.keep hk (fun _ _ _ h => h))
      clear HBP HW
      have HBP := HBP'
      clear HBP'
      have HW := HW'
      clear HW'
      have HK : Hd (Keeps (fun _ => False) W41 W42) := hid hk
      have z_W42 := hk.size
      clear hk
      clear HAR hs1 hs2
      have HF0 : Hd ((⟨nx + 16 + ar, i2, false, [], 0⟩ : Fr).ok) := hid ⟨by show _ ≤ nx + 16 + ar; omega, by show nx + 16 + ar ≤ _; omega, by show _ ≤ i2; omega, by show i2 ≤ _; omega, fun c h => (by cases h), by show (0 : Nat) < _; omega, by show ([] : List Nat).length ≤ _; simp⟩
      obtain ⟨en, hen⟩ : ∃ e, covL ⟨nx + 16 + ar, i2, false, [], 0⟩ = e := ⟨_, rfl⟩
      have HEN := hid hen
      have HEL : Hd (en.length ≤ 100) := hid (by rw [← hen]; have h := covL_len (f := ⟨nx + 16 + ar, i2, false, [], 0⟩) HF0.out; simp only [List.length_nil] at h; omega)
      have HET : Hd (∀ c ∈ en, c < 256) := hid (by rw [← hen]; exact covL_lt HF0.out)
      clear hen
      obtain ⟨tg, htg⟩ : ∃ t, tagN k2 en = t := ⟨_, rfl⟩
      have HTG := hid htg
      clear htg
      obtain ⟨⟨k4, i4⟩, hL4⟩ : ∃ L, nextL ⟨k2, i2⟩ = L := ⟨_, rfl⟩
      have HL4 := hid hL4
      clear hL4
      have HSN : Hd (∀ X, Calls Tryd.prog 14 #[.agg #[(.int .i64 (nx + 16 + ar)), (.int .i64 i2), (.bool false), (.slice none 0 0), (.int .u64 ((0 : Nat) : Int))]] X fun e w' => ∃ an cn, e = .returned (.slice an en.length cn) ∧ Sl (fun b => X.heap.size ≤ b) w' (.slice an en.length cn) (u8s en) ∧ Keeps (fun _ => False) X w') := hid (fun X => by have h := Signed_any ⟨nx + 16 + ar, i2, false, [], 0⟩ (fun _ => True) none 0 X HF0.out (Sl.nil _ _); rw [HEN.out] at h; exact h.mono (fun e w' ⟨a, n, c, he, hn, ho, hk⟩ => ⟨a, c, by rw [he, hn, u8s_length], (by have h := row_sl ho.row (by rw [hn]); rw [hn, u8s_length] at h; exact h), hk⟩))
      have HSG : Hd (∀ X a c K, Sl K X (.slice a en.length c) (u8s en) → Calls Tryd.prog 50 #[.agg #[.int .u64 (k2 : Int), .int .i64 i2], .slice a en.length c] X fun e w' => e = .returned (.tuple #[.int .u64 (tg : Int), .agg #[.int .u64 (k4 : Int), .int .i64 i4]]) ∧ Keeps (fun _ => False) X w') := hid (fun X a c K hs => by have h := LSign_any ⟨k2, i2⟩ K _ en X HLOK.out hs HET.out (by have := HEL.out; omega); unfold signT at h; have h4 := HL4.out; unfold nextL at h4; injection h4 with h5 h6; simp only [] at h5 h6; simp only [HTG.out, h5, h6, nextL] at h; exact h)
      go_upto_region 8 with fail
      go_cut [10, 11] from 62 to 72 (fun u10 u11 wx => u10 = .int .u64 (tg : Int) ∧ ∃ bK, u11 = .pointer (some ⟨bK, 0, none⟩) ∧ W42.heap.size ≤ bK ∧ Hd (Blk wx bK #[.int .u64 (k4 : Int), .int .i64 i4] 33) ∧ Hd (Keeps (fun _ => False) W42 wx))
      case first =>
        refine wp_many (C := mkMC 6 [6, 7, 8, 9, 10, 12, 13] [(11, 33, #[(.int .u64 0), (.int .i64 0)])] [(13, 11, 10)] [(fun _ => .pointer (some ⟨p, 0, none⟩)), (fun _ => .pointer (some ⟨p, 0, none⟩)), (fun _ => .pointer (some ⟨p, 0, none⟩)), (fun _ => .pointer (some ⟨p, 2, none⟩)), (fun _ => .agg #[.int .u64 (k2 : Int), .int .i64 i2]), (fun _ => .agg #[(.int .i64 (nx + 16 + ar)), (.int .i64 i2), (.bool false), (.slice none 0 0), (.int .u64 ((0 : Nat) : Int))]), (fun r => r), (fun r => .tuple #[.int .u64 (tg : Int), .agg #[.int .u64 (k4 : Int), .int .i64 i4]]), (fun r => .tuple #[.int .u64 (tg : Int), .agg #[.int .u64 (k4 : Int), .int .i64 i4]]), (fun r => .int .u64 (tg : Int)), (fun r => .agg #[.int .u64 (k4 : Int), .int .i64 i4]), (fun _ => undef), (fun r => .int .u64 (tg : Int)), (fun _ => undef)] (fun _ _ => #[.int .u64 (k4 : Int), .int .i64 i4]) (slR en)) (by kernel_rfl) ?H ?HV 6 rfl ?HC ?HE
        case H =>
          refine { back := by kernel_rfl, dst := uniqB_spec (by kernel_rfl), szd := underB_spec (by kernel_rfl), val := valB_spec3 (f := mkV [(11, 33, #[(.int .u64 0), (.int .i64 0)])] [(13, 11, 10)]) (by kernel_rfl), alo := ?_, sto := ?_, stc := ?_, all := allB3_spec (f := mkV [(11, 33, #[(.int .u64 0), (.int .i64 0)])] [(13, 11, 10)]) (g := mkA [(11, 33, #[(.int .u64 0), (.int .i64 0)])]) (h := mkS [(13, 11, 10)]) (by kernel_rfl), nva := ?_, nvs := ?_, one := ?_, civ := rfl, nd := ?_, cd := rfl, dd := ?_, sem := klSem _ _ _ _ _ _ _ _ _ rfl }
          · intro j o h0 ha
            have h1 : 11 = j := by simpa [mkMC] using ha
            subst h1
            all_goals
              have h2 := h0
              simp only [List.getElem?_cons_succ, List.getElem?_cons_zero, Option.some.injEq] at h2
              subst h2
              exact ⟨⟨_, rfl⟩, rfl, rfl⟩
          · intro s o h0 ha
            have h1 : 13 = s := by simpa [mkMC] using ha
            subst h1
            all_goals
              have h2 := h0
              simp only [List.getElem?_cons_succ, List.getElem?_cons_zero, Option.some.injEq] at h2
              subst h2
              exact ⟨_, _, _, _, rfl, rfl, rfl, rfl, rfl, rfl, rfl, waitsB_spec (by kernel_rfl), waitsB_spec (by kernel_rfl)⟩
          · intro s ha
            have h1 : 13 = s := by simpa [mkMC] using ha
            subst h1
            all_goals exact ⟨rfl, rfl, rfl, rfl⟩
          · intro s ha
            have h1 : 11 = s := by simpa [mkMC] using ha
            subst h1
            all_goals exact ⟨rfl, rfl, rfl⟩
          · intro s ha
            have h1 : 13 = s := by simpa [mkMC] using ha
            subst h1
            all_goals exact ⟨rfl, rfl⟩
          · intro s t ha hb hst
            have h1 : 13 = s := by simpa [mkMC] using ha
            subst h1
            all_goals (have h2 : 13 = t := by simpa [mkMC] using hb)
            exact h2
          · intro i r r' hv hD
            match i, hD with
            | 0, _ => rfl
            | 1, _ => rfl
            | 2, _ => rfl
            | 3, _ => rfl
            | 4, _ => rfl
            | 5, _ => rfl
            | 6, h => exact absurd h (by simp [mkMC])
            | 7, h => exact absurd h (by simp [mkMC])
            | 8, h => exact absurd h (by simp [mkMC])
            | 9, h => exact absurd h (by simp [mkMC])
            | 10, h => exact absurd h (by simp [mkMC])
            | 11, _ => rfl
            | 12, h => exact absurd h (by simp [mkMC])
            | 13, h => exact absurd h (by simp [mkMC])
            | n + 14, _ => rfl
          · intro i o h0 hD hne
            match i, h0, hD, hne with
            | 0, _, hD, _ => exact absurd hD (by simp [mkMC])
            | 1, _, hD, _ => exact absurd hD (by simp [mkMC])
            | 2, _, hD, _ => exact absurd hD (by simp [mkMC])
            | 3, _, hD, _ => exact absurd hD (by simp [mkMC])
            | 4, _, hD, _ => exact absurd hD (by simp [mkMC])
            | 5, _, hD, _ => exact absurd hD (by simp [mkMC])
            | 6, _, _, hne => exact absurd rfl hne
            | 7, h0, _, _ =>
              simp only [List.getElem?_cons_succ, List.getElem?_cons_zero, Option.some.injEq] at h0
              subst h0
              exact ⟨6, waitsB_spec (by kernel_rfl), rfl⟩
            | 8, h0, _, _ =>
              simp only [List.getElem?_cons_succ, List.getElem?_cons_zero, Option.some.injEq] at h0
              subst h0
              exact ⟨7, waitsB_spec (by kernel_rfl), rfl⟩
            | 9, h0, _, _ =>
              simp only [List.getElem?_cons_succ, List.getElem?_cons_zero, Option.some.injEq] at h0
              subst h0
              exact ⟨8, waitsB_spec (by kernel_rfl), rfl⟩
            | 10, h0, _, _ =>
              simp only [List.getElem?_cons_succ, List.getElem?_cons_zero, Option.some.injEq] at h0
              subst h0
              exact ⟨8, waitsB_spec (by kernel_rfl), rfl⟩
            | 11, _, hD, _ => exact absurd hD (by simp [mkMC])
            | 12, h0, _, _ =>
              simp only [List.getElem?_cons_succ, List.getElem?_cons_zero, Option.some.injEq] at h0
              subst h0
              exact ⟨9, waitsB_spec (by kernel_rfl), rfl⟩
            | 13, h0, _, _ =>
              simp only [List.getElem?_cons_succ, List.getElem?_cons_zero, Option.some.injEq] at h0
              subst h0
              exact ⟨10, waitsB_spec (by kernel_rfl), rfl⟩
            | n + 14, h0, _, _ => simp at h0
        case HV =>
          intro iq o hv hne hi aq w' r hk hd hR
          match iq, hv, hne, hi, hR with
          | 0, _, _, hi, hR =>
            have hi1 := hi
            simp only [List.getElem?_cons_succ, List.getElem?_cons_zero, Option.some.injEq] at hi1
            subst hi1
            have e0 : aq.eval (.tmp 7) = .pointer (some ⟨p, 0, none⟩) := (hd.out (by kernel_rfl)).trans rfl
            exact wpOp_ranL hi rfl (v := .pointer (some ⟨p, 0, none⟩)) (w' := w') (by simp only [execOp, e0]; rfl) ⟨rfl, Keeps.refl _ _⟩
          | 1, _, _, hi, hR =>
            have hi1 := hi
            simp only [List.getElem?_cons_succ, List.getElem?_cons_zero, Option.some.injEq] at hi1
            subst hi1
            have e0 : aq.eval (.tmp 63) = .pointer (some ⟨p, 0, none⟩) := hd.val (j := 0) (by kernel_rfl) rfl rfl rfl
            exact wpOp_ranL hi rfl (v := .pointer (some ⟨p, 0, none⟩)) (w' := w') (by simp only [execOp, e0]; rfl) ⟨rfl, Keeps.refl _ _⟩
          | 2, _, _, hi, hR =>
            have hi1 := hi
            simp only [List.getElem?_cons_succ, List.getElem?_cons_zero, Option.some.injEq] at hi1
            subst hi1
            have e0 : aq.eval (.tmp 64) = .pointer (some ⟨p, 0, none⟩) := hd.val (j := 1) (by kernel_rfl) rfl rfl rfl
            exact wpOp_ranL hi rfl (v := .pointer (some ⟨p, 0, none⟩)) (w' := w') (by simp only [execOp, e0]; go_simp) ⟨rfl, Keeps.refl _ _⟩
          | 3, _, _, hi, hR =>
            have hi1 := hi
            simp only [List.getElem?_cons_succ, List.getElem?_cons_zero, Option.some.injEq] at hi1
            subst hi1
            have e0 : aq.eval (.tmp 65) = .pointer (some ⟨p, 0, none⟩) := hd.val (j := 2) (by kernel_rfl) rfl rfl rfl
            exact wpOp_ranL hi rfl (v := .pointer (some ⟨p, 2, none⟩)) (w' := w') (by simp only [execOp, e0]; go_simp) ⟨rfl, Keeps.refl _ _⟩
          | 4, _, _, hi, hR =>
            have hi1 := hi
            simp only [List.getElem?_cons_succ, List.getElem?_cons_zero, Option.some.injEq] at hi1
            subst hi1
            have e0 : aq.eval (.tmp 66) = .pointer (some ⟨p, 2, none⟩) := hd.val (j := 3) (by kernel_rfl) rfl rfl rfl
            have c0 := keep_cell hk (fun h => h) (blk_cell HBP.out 2)
            have c1 := keep_cell hk (fun h => h) (blk_cell HBP.out 3)
            exact wpOp_ranL hi rfl (v := .agg #[.int .u64 (k2 : Int), .int .i64 i2]) (w' := w') (by simp only [execOp, e0]; go_simp) ⟨rfl, Keeps.refl _ _⟩
          | 5, _, _, hi, hR =>
            have hi1 := hi
            simp only [List.getElem?_cons_succ, List.getElem?_cons_zero, Option.some.injEq] at hi1
            subst hi1
            have e0 : aq.eval (.tmp 9) = .pointer (some ⟨b_F, 0, none⟩) := (hd.out (by kernel_rfl)).trans rfl
            have c0 := keep_cell hk (fun h => h) (blk_cell B_F.out 0)
            have c1 := keep_cell hk (fun h => h) (blk_cell B_F.out 1)
            have c2 := keep_cell hk (fun h => h) (blk_cell B_F.out 2)
            have c3 := keep_cell hk (fun h => h) (blk_cell B_F.out 3)
            have c4 := keep_cell hk (fun h => h) (blk_cell B_F.out 4)
            exact wpOp_ranL hi rfl (v := .agg #[(.int .i64 (nx + 16 + ar)), (.int .i64 i2), (.bool false), (.slice none 0 0), (.int .u64 ((0 : Nat) : Int))]) (w' := w') (by simp only [execOp, e0]; go_simp) ⟨rfl, Keeps.refl _ _⟩
          | 6, _, hne, _, _ => exact absurd rfl hne
          | 7, _, _, hi, hR =>
            have hi1 := hi
            simp only [List.getElem?_cons_succ, List.getElem?_cons_zero, Option.some.injEq] at hi1
            subst hi1
            obtain ⟨K, an, cn, rfl, hsl⟩ := hR rfl
            have e0 : aq.eval (.tmp 67) = .agg #[.int .u64 (k2 : Int), .int .i64 i2] := hd.val (j := 4) (by kernel_rfl) rfl rfl rfl
            have e1 : aq.eval (.tmp 69) = .slice an en.length cn := hd.val (j := 6) (by kernel_rfl) rfl rfl rfl
            exact wpOp_callL hi rfl (f := 50) (args := #[.agg #[.int .u64 (k2 : Int), .int .i64 i2], .slice an en.length cn]) (by simp only [execOp_call_go, List.map_toArray, List.map_cons, List.map_nil, e0, e1]; rfl) ((HSG.out _ _ _ _ hsl).mono (fun e w2 ⟨he, hk2⟩ => ⟨_, he, rfl, hk2⟩))
          | 8, _, _, hi, hR =>
            have hi1 := hi
            simp only [List.getElem?_cons_succ, List.getElem?_cons_zero, Option.some.injEq] at hi1
            subst hi1
            obtain ⟨K, an, cn, rfl, hsl⟩ := hR rfl
            have e0 : aq.eval (.tmp 70) = .tuple #[.int .u64 (tg : Int), .agg #[.int .u64 (k4 : Int), .int .i64 i4]] := hd.val (j := 7) (by kernel_rfl) rfl rfl rfl
            exact wpOp_ranL hi rfl (v := .tuple #[.int .u64 (tg : Int), .agg #[.int .u64 (k4 : Int), .int .i64 i4]]) (w' := w') (by simp only [execOp, e0]; rfl) ⟨rfl, Keeps.refl _ _⟩
          | 9, _, _, hi, hR =>
            have hi1 := hi
            simp only [List.getElem?_cons_succ, List.getElem?_cons_zero, Option.some.injEq] at hi1
            subst hi1
            obtain ⟨K, an, cn, rfl, hsl⟩ := hR rfl
            have e0 : aq.eval (.tmp 62) = .tuple #[.int .u64 (tg : Int), .agg #[.int .u64 (k4 : Int), .int .i64 i4]] := hd.val (j := 8) (by kernel_rfl) rfl rfl rfl
            exact wpOp_ranL hi rfl (v := .int .u64 (tg : Int)) (w' := w') (by simp only [execOp, e0]; rfl) ⟨rfl, Keeps.refl _ _⟩
          | 10, _, _, hi, hR =>
            have hi1 := hi
            simp only [List.getElem?_cons_succ, List.getElem?_cons_zero, Option.some.injEq] at hi1
            subst hi1
            obtain ⟨K, an, cn, rfl, hsl⟩ := hR rfl
            have e0 : aq.eval (.tmp 62) = .tuple #[.int .u64 (tg : Int), .agg #[.int .u64 (k4 : Int), .int .i64 i4]] := hd.val (j := 8) (by kernel_rfl) rfl rfl rfl
            exact wpOp_ranL hi rfl (v := .agg #[.int .u64 (k4 : Int), .int .i64 i4]) (w' := w') (by simp only [execOp, e0]; rfl) ⟨rfl, Keeps.refl _ _⟩
          | 11, hv, _, _, _ => cases hv
          | 12, _, _, hi, hR =>
            have hi1 := hi
            simp only [List.getElem?_cons_succ, List.getElem?_cons_zero, Option.some.injEq] at hi1
            subst hi1
            obtain ⟨K, an, cn, rfl, hsl⟩ := hR rfl
            have e0 : aq.eval (.tmp 71) = .int .u64 (tg : Int) := hd.val (j := 9) (by kernel_rfl) rfl rfl rfl
            exact wpOp_ranL hi rfl (v := .int .u64 (tg : Int)) (w' := w') (by simp only [execOp, e0]; rfl) ⟨rfl, Keeps.refl _ _⟩
          | 13, hv, _, _, _ => cases hv
          | n + 14, _, _, hi, _ => simp at hi
        case HC =>
          intro o hi aq w' r hk hd
          have hi1 := hi
          simp only [List.getElem?_cons_succ, List.getElem?_cons_zero, Option.some.injEq] at hi1
          subst hi1
          have e0 : aq.eval (.tmp 68) = .agg #[(.int .i64 (nx + 16 + ar)), (.int .i64 i2), (.bool false), (.slice none 0 0), (.int .u64 ((0 : Nat) : Int))] := hd.val (j := 5) (by kernel_rfl) rfl rfl rfl
          exact wpOp_callL hi rfl (f := 14) (args := #[.agg #[(.int .i64 (nx + 16 + ar)), (.int .i64 i2), (.bool false), (.slice none 0 0), (.int .u64 ((0 : Nat) : Int))]]) (by simp only [execOp_call_go, List.map_toArray, List.map_cons, List.map_nil, e0]; rfl) ((HSN.out _).mono (fun e w2 ⟨an, cn, he, hsl, hk2⟩ => ⟨_, he, _, rfl, hk2, an, cn, rfl, hsl.mono (fun b _ h => .inr h)⟩))
        case HE =>
          intro L aq w' gg r hL hT
          have em := act_mix (bs := [true, true, true, true, true, true, true, true, true, true, false, false, true, true, true, true, true, true, true, true, true, true, true, true, true, true, true, true, true, true, true, true, true, true, true, true, true, true, true, true, true, true, true, true, true, true, true, true, true, true, true, true, true, true, true, true, true, true, true, true, true, true, false, false, false, false, false, false, false, false, false, false, false, true, true, true, true, true, true, true, true, true, true, true, true, true, true, true, true, true, true, true, true, true, true, true, true, true, true, true, true, true, true, true, true, true, true, true, true, true, true, true, true, true, true, true, true, true, true, true, true, true, true, true, true, true, true, true, true, true, true, true, true, true, true, true, true, true, true, true, true, true, true, true, true, true, true, true, true, true, true, true, true, true, true, true, true, true, true, true, true, true, true, true, true, true, true, true, true, true, true, true, true, true, true, true, true, true, true, true, true, true, true, true, true, true, true, true, true, true, true, true, true, true, true, true, true, true, true, true, true, true, true, true, true, true, true, true]) hT.sz hT.df hT.fr rfl (by kernel_rfl)
          have hR := hT.c (hL 6 (by decide))
          obtain ⟨an, cn, rfl, hsl⟩ := hR
          have kW := hT.kp
          obtain ⟨eA11, zA11, cs11, -, bA11, sA11⟩ := hT.al 11 rfl (hL 11 (by decide)) _ 11 rfl rfl
          have sA11 := sA11 13 rfl (hL 13 (by decide)) rfl
          subst sA11
          change aq.tmps.getD 11 undef = _ at eA11
          generalize gg 11 = g11 at *
          have k10 : aq.tmps.getD 10 undef = .int .u64 (tg : Int) := hT.v 12 _ 10 rfl (hL 12 (by decide)) rfl rfl
          clear hT hL
          simp only [mix, eA11, k10] at em
          clear eA11 k10
          generalize aq.tmps.getD 63 undef = q63 at em
          generalize aq.tmps.getD 64 undef = q64 at em
          generalize aq.tmps.getD 65 undef = q65 at em
          generalize aq.tmps.getD 66 undef = q66 at em
          generalize aq.tmps.getD 67 undef = q67 at em
          generalize aq.tmps.getD 68 undef = q68 at em
          generalize aq.tmps.getD 69 undef = q69 at em
          generalize aq.tmps.getD 70 undef = q70 at em
          generalize aq.tmps.getD 62 undef = q62 at em
          generalize aq.tmps.getD 71 undef = q71 at em
          generalize aq.tmps.getD 72 undef = q72 at em
          subst em
          simp only [Exit.then]
          go_wp2_with fail
          go_meet
          exact ⟨rfl, g11, rfl, zA11, hid bA11, hid kW⟩
      case rest =>
      obtain ⟨rfl, b_K, rfl, hb_K, B_K, hk⟩ := hcut
      replace hk := hk.out
      generalize wc = W43 at *
      have HWq : Hd (WR (fun b => w.heap.size ≤ b ∧ b ≠ b_F ∧ b ≠ b_K) (fun b => b ≠ b_F ∧ b ≠ b_K) W42 p ⟨⟨bs, nx, ⟨k2, i2⟩⟩, ⟨nx, fs, lk, ⟨rk, ri⟩⟩, FSq, RP, GT⟩ a2 c2 aa ac fa fc ra rc ga gc) := hid (HW.out.mono (fun b hb h => ⟨h.1, h.2, by omega⟩) (fun b hb h => ⟨h, by omega⟩))
      clear HW
      have HW := HWq
      clear HWq
      have dFK : b_F ≠ b_K := by have := blk_lt (b := b_F) B_F.out; omega
      have HBP' : Hd (Blk W43 p #[(.slice a2 sn c2), (.int .i64 nx), (.int .u64 (k2 : Int)), (.int .i64 i2), (.int .i64 nx), (.slice aa fn ac), (.bool lk), (.int .u64 (rk : Int)), (.int .i64 ri), (.slice fa f2n fc), (.slice ra rpn rc), (.slice ga gn gc)] 60) := hid (blk_keep HBP.out hk (fun h => h))
      have HW' : Hd (WR (fun b => w.heap.size ≤ b ∧ b ≠ b_F ∧ b ≠ b_K) (fun b => b ≠ b_F ∧ b ≠ b_K) W43 p ⟨⟨bs, nx, ⟨k2, i2⟩⟩, ⟨nx, fs, lk, ⟨rk, ri⟩⟩, FSq, RP, GT⟩ a2 c2 aa ac fa fc ra rc ga gc) := hid (HW.out.keep hk (fun _ _ _ h => h))
      have B_F' : Hd (Blk W43 b_F #[(.int .i64 (nx + 16 + ar)), (.int .i64 i2), (.bool false), (.slice none 0 0), (.int .u64 ((0 : Nat) : Int))] 25) := hid (blk_keep B_F.out hk (fun h => h))
      clear HBP HW B_F
      have HBP := HBP'
      clear HBP'
      have HW := HW'
      clear HW'
      have B_F := B_F'
      clear B_F'
      have HK' : Hd (Keeps (fun _ => False) W41 W43) := hid (HK.out.trans hk)
      clear HK
      have HK := HK'
      clear HK'
      have z_W43 := hk.size
      clear hk
      have o_HBP_0 : W43.cell? ⟨p, 0, none⟩ = some ((.slice a2 sn c2)) := blk_cell HBP.out 0
      have o_HBP_1 : W43.cell? ⟨p, 1, none⟩ = some ((.int .i64 nx)) := blk_cell HBP.out 1
      have o_HBP_4 : W43.cell? ⟨p, 4, none⟩ = some ((.int .i64 nx)) := blk_cell HBP.out 4
      have o_HBP_5 : W43.cell? ⟨p, 5, none⟩ = some ((.slice aa fn ac)) := blk_cell HBP.out 5
      have o_HBP_6 : W43.cell? ⟨p, 6, none⟩ = some ((.bool lk)) := blk_cell HBP.out 6
      have o_HBP_7 : W43.cell? ⟨p, 7, none⟩ = some ((.int .u64 (rk : Int))) := blk_cell HBP.out 7
      have o_HBP_8 : W43.cell? ⟨p, 8, none⟩ = some ((.int .i64 ri)) := blk_cell HBP.out 8
      have o_HBP_9 : W43.cell? ⟨p, 9, none⟩ = some ((.slice fa f2n fc)) := blk_cell HBP.out 9
      have o_HBP_10 : W43.cell? ⟨p, 10, none⟩ = some ((.slice ra rpn rc)) := blk_cell HBP.out 10
      have o_HBP_11 : W43.cell? ⟨p, 11, none⟩ = some ((.slice ga gn gc)) := blk_cell HBP.out 11
      have o_B_F_0 : W43.cell? ⟨b_F, 0, none⟩ = some ((.int .i64 (nx + 16 + ar))) := blk_cell B_F.out 0
      have o_B_F_1 : W43.cell? ⟨b_F, 1, none⟩ = some ((.int .i64 i2)) := blk_cell B_F.out 1
      have o_B_F_2 : W43.cell? ⟨b_F, 2, none⟩ = some ((.bool false)) := blk_cell B_F.out 2
      have o_B_F_3 : W43.cell? ⟨b_F, 3, none⟩ = some ((.slice none 0 0)) := blk_cell B_F.out 3
      have o_B_K_0 : W43.cell? ⟨b_K, 0, none⟩ = some ((.int .u64 (k4 : Int))) := blk_cell B_K.out 0
      have o_B_K_1 : W43.cell? ⟨b_K, 1, none⟩ = some ((.int .i64 i4)) := blk_cell B_K.out 1
      have o_HBP_2 : W43.cell? ⟨p, 2, none⟩ = some ((.int .u64 (k2 : Int))) := blk_cell HBP.out 2
      have o_HBP_3 : W43.cell? ⟨p, 3, none⟩ = some ((.int .i64 i2)) := blk_cell HBP.out 3
      have o_B_F_4 : W43.cell? ⟨b_F, 4, none⟩ = some ((.int .u64 ((0 : Nat) : Int))) := blk_cell B_F.out 4
      have f_HBP_2 : W43.frozen? ⟨p, 2, none⟩ = false := blk_free HBP.out 2
      have f_HBP_3 : W43.frozen? ⟨p, 3, none⟩ = false := blk_free HBP.out 3
      have f_B_F_4 : W43.frozen? ⟨b_F, 4, none⟩ = false := blk_free B_F.out 4
      go_upto_region 11 with fail
      have HK' : Hd (Keeps (fun _ => False) w W43) := hid ((HKK.out.mono (fun b h1 h2 => by omega)).trans HK.out)
      clear HK HKK
      have HK := HK'
      clear HK'
      have dp0 := HML.out p (.inl rfl)
      have dp1 : w.heap.size ≤ p ∧ p ≠ b_F ∧ p ≠ b_K := HW.out.k p (.inl rfl)
      obtain ⟨dp2, dp3, dp4⟩ := dp1
      have dF := blk_lt (b := b_F) B_F.out
      have dK := blk_lt (b := b_K) B_K.out
      clear o_HBP_0 o_HBP_1 o_HBP_4 o_HBP_5 o_HBP_6 o_HBP_7 o_HBP_8 o_HBP_9 o_HBP_10 o_HBP_11 o_B_F_0 o_B_F_1 o_B_F_2 o_B_F_3 o_B_K_0 o_B_K_1 o_HBP_2 o_HBP_3 o_B_F_4 f_HBP_2 f_HBP_3 f_B_F_4
      generalize hW : World.setCell W43 _ _ = W44
      have KS : Hd (Keeps (fun b => b = b_F) W43 W44) := hid (by rw [← hW]; exact (Keeps.setCell (S := fun b => b = b_F) (p := ⟨b_F, 4, none⟩) (Keeps.refl (fun b => b = b_F) W43) (.inl rfl) _))
      have HBP' : Hd (Blk W44 p #[(.slice a2 sn c2), (.int .i64 nx), (.int .u64 (k2 : Int)), (.int .i64 i2), (.int .i64 nx), (.slice aa fn ac), (.bool lk), (.int .u64 (rk : Int)), (.int .i64 ri), (.slice fa f2n fc), (.slice ra rpn rc), (.slice ga gn gc)] 60) := hid (by rw [← hW]; exact (blk_other HBP.out (by omega) _ _))
      have HW' : Hd (WR (fun b => w.heap.size ≤ b ∧ b ≠ b_F ∧ b ≠ b_K) (fun b => b ≠ b_F ∧ b ≠ b_K) W44 p ⟨⟨bs, nx, ⟨k2, i2⟩⟩, ⟨nx, fs, lk, ⟨rk, ri⟩⟩, FSq, RP, GT⟩ a2 c2 aa ac fa fc ra rc ga gc) := hid (HW.out.keep KS.out (fun b _ h1 h2 => h1.elim (fun h => h.2.1 h2) (fun h => h.1 h2)))
      have B_F' : Hd (Blk W44 b_F #[(.int .i64 (nx + 16 + ar)), (.int .i64 i2), (.bool false), (.slice none 0 0), (.int .u64 (tg : Int))] 25) := hid (by rw [← hW]; exact (blk_set B_F.out 4 _))
      have B_K' : Hd (Blk W44 b_K #[(.int .u64 (k4 : Int)), (.int .i64 i4)] 33) := hid (by rw [← hW]; exact (blk_other B_K.out (by omega) _ _))
      clear HBP HW B_F B_K
      have HBP := HBP'
      clear HBP'
      have HW := HW'
      clear HW'
      have B_F := B_F'
      clear B_F'
      have B_K := B_K'
      clear B_K'
      have HK' : Hd (Keeps (fun _ => False) w W44) := hid (HK.out.trans' KS.out (fun i hi h => by omega))
      clear HK
      have HK := HK'
      clear HK'
      have z_W44 : W43.heap.size + 0 ≤ W44.heap.size := by rw [← hW]; simp
      clear hW KS
      generalize hW : World.setCell (World.setCell W44 _ _) _ _ = W45
      have KS : Hd (Keeps (fun b => b = p) W44 W45) := hid (by rw [← hW]; exact (Keeps.setCell (S := fun b => b = p) (p := ⟨p, 3, none⟩) (Keeps.setCell (S := fun b => b = p) (p := ⟨p, 2, none⟩) (Keeps.refl (fun b => b = p) W44) (.inl rfl) _) (.inl rfl) _))
      have HBP' : Hd (Blk W45 p #[(.slice a2 sn c2), (.int .i64 nx), (.int .u64 (k4 : Int)), (.int .i64 i4), (.int .i64 nx), (.slice aa fn ac), (.bool lk), (.int .u64 (rk : Int)), (.int .i64 ri), (.slice fa f2n fc), (.slice ra rpn rc), (.slice ga gn gc)] 60) := hid (by rw [← hW]; exact (blk_set (blk_set HBP.out 2 _) 3 _))
      have B_F' : Hd (Blk W45 b_F #[(.int .i64 (nx + 16 + ar)), (.int .i64 i2), (.bool false), (.slice none 0 0), (.int .u64 (tg : Int))] 25) := hid (by rw [← hW]; exact (blk_other (blk_other B_F.out (by omega) _ _) (by omega) _ _))
      have B_K' : Hd (Blk W45 b_K #[(.int .u64 (k4 : Int)), (.int .i64 i4)] 33) := hid (by rw [← hW]; exact (blk_other (blk_other B_K.out (by omega) _ _) (by omega) _ _))
      clear HBP B_F B_K
      have HBP := HBP'
      clear HBP'
      have B_F := B_F'
      clear B_F'
      have B_K := B_K'
      clear B_K'
      have HK' : Hd (Keeps (fun _ => False) w W45) := hid (HK.out.trans' KS.out (fun i hi h => by omega))
      clear HK
      have HK := HK'
      clear HK'
      have z_W45 : W44.heap.size + 0 ≤ W45.heap.size := by rw [← hW]; simp
      have HW' : Hd (WR (fun b => w.heap.size ≤ b ∧ b ≠ b_F ∧ b ≠ b_K) (fun b => b ≠ b_F ∧ b ≠ b_K) W45 p ⟨⟨bs, nx, ⟨k4, i4⟩⟩, ⟨nx, fs, lk, ⟨rk, ri⟩⟩, FSq, RP, GT⟩ a2 c2 aa ac fa fc ra rc ga gc) := hid (HW.out.upS KS.out (s := ⟨bs, nx, ⟨k4, i4⟩⟩) (sa2 := a2) (sc2 := c2) (by simp only [N_sn.out, N_fn.out, N_f2n.out, N_rpn.out, N_gn.out]; exact HBP.out) (HW.out.sb.keep KS.out (fun b _ h e => h.2 (.inl e))))
      clear HW
      have HW := HW'
      clear HW'
      clear hW KS
      have HF1 : Hd (farF MM far = ⟨nx + 16 + ar, i2, false, [], tg⟩) := hid (by unfold farF signF; rw [roundS_l HI.out, HMM.out]; simp only [setK]; rw [HARD.out, HEN.out, HTG.out])
      have HR1 : Hd (recvM ⟨nx, fs, lk, ⟨rk, ri⟩⟩ ⟨nx + 16 + ar, i2, false, [], tg⟩ = (⟨nx, fs, true, ⟨k4, i4⟩⟩, [], 32)) := hid (by have h := HFA.out; rw [HF1.out, HMM.out] at h; unfold lockR at h; simp only [HL4.out] at h; exact h)
      have HTL : Hd (tg < 18446744073709551616) := hid (by rw [← HTG.out]; exact tagN_lt _ _)
      have HFK : Hd (Fr.ok ⟨nx + 16 + ar, i2, false, [], tg⟩) := hid ⟨HF0.out.q0, HF0.out.q1, HF0.out.k0, HF0.out.k1, fun c h => (by cases h), HTL.out, HF0.out.n⟩
      have HAV : Hd (∀ X, Keeps (fun _ => False) W45 X → Calls Tryd.prog 51 #[.pointer (some ⟨p, 0, none⟩), .agg #[.int .i64 (nx + 16 + ar), .int .i64 i2, .bool false, .slice none 0 0, .int .u64 (tg : Int)]] X fun e w' => e = .returned (.int .i64 32) ∧ WRx (fun b => w.heap.size ≤ b ∧ b ≠ b_F ∧ b ≠ b_K) (fun b => b ≠ b_F ∧ b ≠ b_K) w' p ⟨⟨bs, nx, ⟨k4, i4⟩⟩, ⟨nx, fs, true, ⟨k4, i4⟩⟩, FSq, RP, GT⟩ ∧ Keeps (fun b => w.heap.size ≤ b ∧ b ≠ b_F ∧ b ≠ b_K) X w') := hid (fun X hx => by
        have h := arrive_any ⟨⟨bs, nx, ⟨k4, i4⟩⟩, ⟨nx, fs, lk, ⟨rk, ri⟩⟩, FSq, RP, GT⟩ p ⟨nx + 16 + ar, i2, false, [], tg⟩ none 0 (fun b => w.heap.size ≤ b ∧ b ≠ b_F ∧ b ≠ b_K) (fun b => b ≠ b_F ∧ b ≠ b_K) (fun _ => True) X ⟨_, _, _, _, _, _, _, _, _, _, HW.out.keep hx (fun _ _ _ h => h)⟩ (fun b hb => by have hb2 := Nat.le_trans hx.size hb; exact ⟨⟨by omega, by omega, by omega⟩, by omega, by omega⟩) (Sl.nil _ _) _ HO.out.r (by decide) HFK.out (by show GT.length ≤ 100000; have h1 := HI.out.g; rw [HMM.out] at h1; simp only [] at h1; rw [h1, List.length_take]; have := N_sn.out; omega)
        unfold arriveM at h; rw [HR1.out] at h; simp only [List.append_nil] at h; exact h)
      obtain ⟨⟨k5, i5⟩, hL5⟩ : ∃ L, nextL ⟨k4, i4⟩ = L := ⟨_, rfl⟩
      obtain ⟨⟨k6, i6⟩, hL6⟩ : ∃ L, nextL ⟨k5, i5⟩ = L := ⟨_, rfl⟩
      have e4 : i2 + 1 = i4 := congrArg Ld.i HL4.out
      have e5 : i4 + 1 = i5 := congrArg Ld.i hL5
      have e6 : i5 + 1 = i6 := congrArg Ld.i hL6
      have HLK4 : Hd (Ld.ok ⟨k4, i4⟩) := hid ⟨by have h := congrArg Ld.k HL4.out; rw [show k4 = stepN k2 from h.symm]; exact stepN_lt _, by show 0 ≤ i4; omega, by show i4 ≤ _; omega⟩
      have HLK5 : Hd (Ld.ok ⟨k5, i5⟩) := hid ⟨by have h := congrArg Ld.k hL5; rw [show k5 = stepN k4 from h.symm]; exact stepN_lt _, by show 0 ≤ i5; omega, by show i5 ≤ _; omega⟩
      have HLK6 : Hd (Ld.ok ⟨k6, i6⟩) := hid ⟨by have h := congrArg Ld.k hL6; rw [show k6 = stepN k5 from h.symm]; exact stepN_lt _, by show 0 ≤ i6; omega, by show i6 ≤ _; omega⟩
      have HL5 := hid hL5; have HL6 := hid hL6
      clear hL5 hL6
      have HRK : Hd (∀ k i, Ld.ok ⟨k, i⟩ → i ≤ 1000 → Rv.ok ⟨nx, fs, true, ⟨k, i⟩⟩ 1000000) := hid (fun k i h1 h2 => by have h := HO.out.r; exact ⟨h.n0, by have := h.n1; show nx ≤ _; omega, h.f, h.s, h1.k, h1.i0, by show i ≤ _; omega⟩)
      have hvb : 0 ≤ hv ∧ hv ≤ 1000000000000 := by rw [← HHV.out]; exact havI_b (fun y hy => (hfq.out y hy).2)
      have HGT : Hd (GT.length ≤ 100000) := hid (by have h1 := HI.out.g; rw [HMM.out] at h1; simp only [] at h1; rw [h1, List.length_take]; have := N_sn.out; omega)
      have HST3 : Hd (∀ X aa ac K, Frs K X (.slice aa fn ac) fs → Calls Tryd.prog 28 #[.agg #[.int .i64 nx, .slice aa fn ac, .bool true, .int .u64 (k4 : Int), .int .i64 i4]] X fun e w' => e = .returned (.agg #[.int .i64 nx, .int .i64 hv, .int .i64 i4, .bool true]) ∧ Keeps (fun _ => False) X w') := hid (fun X aa ac K hx => by have h := State_any fs aa ac nx true ⟨k4, i4⟩ K X (by rw [N_fn.out]; exact hx) (by rw [N_fn.out]; omega) hnx0 (by omega) (fun y hy => by have h := hfq.out y hy; exact ⟨h.1, by have := h.2; omega⟩); rw [HHV.out, N_fn.out] at h; exact h)
      have HMI : Hd (∀ X sa sc, Calls Tryd.prog 48 #[.agg #[.slice sa sn sc, .int .i64 nx, .int .u64 (k4 : Int), .int .i64 i4], .agg #[.int .i64 nx, .int .i64 hv, .int .i64 i4, .bool true]] X fun e w' => ∃ am cm, e = .returned (.slice am 0 cm) ∧ Keeps (fun _ => False) X w') := hid (fun X sa sc => by have h := Missing_any sn sa sc nx ⟨k4, i4⟩ nx hv i4 true X (by omega) (.inl (by omega)) hnx0 (by omega) hnx0 (by omega) hvb.1 hvb.2; exact h.mono (fun e w' ⟨a, m, c, h1, _, h3, h4⟩ => ⟨a, c, by rw [h1, h3]; rfl, h4⟩))
      skip
      go_upto_region 11 with fail
      go_cut [105] from 80 to 105 (fun u9 wx => u9 = .bool false ∧ Hd (WRx (fun b => w.heap.size ≤ b ∧ b ≠ b_F ∧ b ≠ b_K) (fun b => b ≠ b_F ∧ b ≠ b_K) wx p ⟨⟨bs, nx, ⟨k4, i4⟩⟩, ⟨nx, fs, true, ⟨k4, i4⟩⟩, FSq, RP, GT⟩) ∧ Hd (Blk wx b_F #[(.int .i64 (nx + 16 + ar)), (.int .i64 i2), (.bool false), (.slice none 0 0), (.int .u64 (tg : Int))] 25) ∧ Hd (Keeps (fun b => w.heap.size ≤ b ∧ b ≠ b_F ∧ b ≠ b_K) W45 wx))
      case first =>
        have HSS : Hd (∀ w', Keeps (fun b => w.heap.size ≤ b ∧ b ≠ b_F ∧ b ≠ b_K) W45 w' → (w'.cell? ⟨b_F, 0, none⟩ = some ((.int .i64 (nx + 16 + ar))) ∧ w'.cell? ⟨b_F, 1, none⟩ = some ((.int .i64 i2)) ∧ w'.cell? ⟨b_F, 2, none⟩ = some ((.bool false)) ∧ w'.cell? ⟨b_F, 3, none⟩ = some ((.slice none 0 0)) ∧ w'.cell? ⟨b_F, 4, none⟩ = some ((.int .u64 (tg : Int))))) := hid (fun w' hk => ⟨blk_cell (blk_keep B_F.out hk (fun h => h.2.1 rfl)) 0, blk_cell (blk_keep B_F.out hk (fun h => h.2.1 rfl)) 1, blk_cell (blk_keep B_F.out hk (fun h => h.2.1 rfl)) 2, blk_cell (blk_keep B_F.out hk (fun h => h.2.1 rfl)) 3, blk_cell (blk_keep B_F.out hk (fun h => h.2.1 rfl)) 4⟩)
        have KC : Hd (Keeps (fun b => w.heap.size ≤ b ∧ b ≠ b_F ∧ b ≠ b_K) W45 W45) := hid (Keeps.refl _ _)
        rw [lUa_eq, lUb_eq, lUc_eq]
        go_region_held (fun w' => w'.cell? ⟨b_F, 0, none⟩ = some ((.int .i64 (nx + 16 + ar))) ∧ w'.cell? ⟨b_F, 1, none⟩ = some ((.int .i64 i2)) ∧ w'.cell? ⟨b_F, 2, none⟩ = some ((.bool false)) ∧ w'.cell? ⟨b_F, 3, none⟩ = some ((.slice none 0 0)) ∧ w'.cell? ⟨b_F, 4, none⟩ = some ((.int .u64 (tg : Int)))) (exact HSS.out _ (by repeat (first | (with_reducible exact KC.out) | (with_reducible exact Keeps.refl _ _) | (with_reducible apply Keeps.drewN) | (with_reducible apply Keeps.drew))))
          (first
          | (go_at_call 51; (refine (HAV.out _ (by repeat (first | (with_reducible exact Keeps.refl _ _) | (with_reducible apply Keeps.drewN) | (with_reducible apply Keeps.drew)))).mono ?_); rintro e y0 ⟨rfl, ⟨sa3, sc3, aa3, ac3, fa3, fc3, ra3, rc3, ga3, gc3, hw3⟩, hk⟩; have HW3 := hid hw3; have hb3 := hw3.blk; (simp only [N_sn.out, N_fn.out, N_f2n.out, N_rpn.out, N_gn.out, List.length_nil] at hb3); have HB3 : Hd (Blk y0 p #[(.slice sa3 sn sc3), (.int .i64 nx), (.int .u64 (k4 : Int)), (.int .i64 i4), (.int .i64 nx), (.slice aa3 fn ac3), (.bool true), (.int .u64 (k4 : Int)), (.int .i64 i4), (.slice fa3 f2n fc3), (.slice ra3 rpn rc3), (.slice ga3 gn gc3)] 60) := hid hb3; have KC2 : Hd (Keeps (fun b => w.heap.size ≤ b ∧ b ≠ b_F ∧ b ≠ b_K) W45 y0) := hid (Keeps.trans (S := (fun b => w.heap.size ≤ b ∧ b ≠ b_F ∧ b ≠ b_K)) (by repeat (first | (with_reducible exact Keeps.refl _ _) | (with_reducible apply Keeps.drewN) | (with_reducible apply Keeps.drew))) hk); replace KC := KC2; clear KC2 hw3 hb3 hk; have K9 : Hd (Keeps (fun _ => False) y0 y0) := hid (Keeps.refl _ _); have o0_y0 : y0.cell? ⟨p, 0, none⟩ = some (.slice sa3 sn sc3) := blk_cell (blk_keep HB3.out K9.out (fun h => h)) 0; have o1_y0 : y0.cell? ⟨p, 1, none⟩ = some (.int .i64 nx) := blk_cell (blk_keep HB3.out K9.out (fun h => h)) 1; have o2_y0 : y0.cell? ⟨p, 2, none⟩ = some (.int .u64 (k4 : Int)) := blk_cell (blk_keep HB3.out K9.out (fun h => h)) 2; have o3_y0 : y0.cell? ⟨p, 3, none⟩ = some (.int .i64 i4) := blk_cell (blk_keep HB3.out K9.out (fun h => h)) 3; have o4_y0 : y0.cell? ⟨p, 4, none⟩ = some (.int .i64 nx) := blk_cell (blk_keep HB3.out K9.out (fun h => h)) 4; have o5_y0 : y0.cell? ⟨p, 5, none⟩ = some (.slice aa3 fn ac3) := blk_cell (blk_keep HB3.out K9.out (fun h => h)) 5; have o6_y0 : y0.cell? ⟨p, 6, none⟩ = some (.bool true) := blk_cell (blk_keep HB3.out K9.out (fun h => h)) 6; have o7_y0 : y0.cell? ⟨p, 7, none⟩ = some (.int .u64 (k4 : Int)) := blk_cell (blk_keep HB3.out K9.out (fun h => h)) 7; have o8_y0 : y0.cell? ⟨p, 8, none⟩ = some (.int .i64 i4) := blk_cell (blk_keep HB3.out K9.out (fun h => h)) 8)
          | (go_at_call 28; (refine (HST3.out _ _ _ _ (by have h := HW3.out.ah; (simp only [N_fn.out] at h); exact h.keep (by repeat (first | (with_reducible exact K9.out) | (with_reducible exact Keeps.refl _ _) | (with_reducible apply Keeps.drewN) | (with_reducible apply Keeps.drew))) (fun _ _ _ h => h))).mono ?_); rintro e y1 ⟨rfl, hk⟩; have K2 : Hd (Keeps (fun _ => False) y0 y1) := hid (Keeps.trans (S := fun _ => False) (by repeat (first | (with_reducible exact K9.out) | (with_reducible exact Keeps.refl _ _) | (with_reducible apply Keeps.drewN) | (with_reducible apply Keeps.drew))) hk); replace K9 := K2; clear K2; have KC2 : Hd (Keeps (fun b => w.heap.size ≤ b ∧ b ≠ b_F ∧ b ≠ b_K) W45 y1) := hid (Keeps.trans' (S := (fun b => w.heap.size ≤ b ∧ b ≠ b_F ∧ b ≠ b_K)) (by repeat (first | (with_reducible exact KC.out) | (with_reducible exact Keeps.refl _ _) | (with_reducible apply Keeps.drewN) | (with_reducible apply Keeps.drew))) hk (fun _ _ h => h.elim)); replace KC := KC2; clear KC2 hk; have o0_y1 : y1.cell? ⟨p, 0, none⟩ = some (.slice sa3 sn sc3) := blk_cell (blk_keep HB3.out K9.out (fun h => h)) 0; have o1_y1 : y1.cell? ⟨p, 1, none⟩ = some (.int .i64 nx) := blk_cell (blk_keep HB3.out K9.out (fun h => h)) 1; have o2_y1 : y1.cell? ⟨p, 2, none⟩ = some (.int .u64 (k4 : Int)) := blk_cell (blk_keep HB3.out K9.out (fun h => h)) 2; have o3_y1 : y1.cell? ⟨p, 3, none⟩ = some (.int .i64 i4) := blk_cell (blk_keep HB3.out K9.out (fun h => h)) 3; have o4_y1 : y1.cell? ⟨p, 4, none⟩ = some (.int .i64 nx) := blk_cell (blk_keep HB3.out K9.out (fun h => h)) 4; have o5_y1 : y1.cell? ⟨p, 5, none⟩ = some (.slice aa3 fn ac3) := blk_cell (blk_keep HB3.out K9.out (fun h => h)) 5; have o6_y1 : y1.cell? ⟨p, 6, none⟩ = some (.bool true) := blk_cell (blk_keep HB3.out K9.out (fun h => h)) 6; have o7_y1 : y1.cell? ⟨p, 7, none⟩ = some (.int .u64 (k4 : Int)) := blk_cell (blk_keep HB3.out K9.out (fun h => h)) 7; have o8_y1 : y1.cell? ⟨p, 8, none⟩ = some (.int .i64 i4) := blk_cell (blk_keep HB3.out K9.out (fun h => h)) 8)
          | (go_at_call 48; (refine (HMI.out _ _ _).mono ?_); rintro e y2 ⟨am, cm, rfl, hk⟩; have K2 : Hd (Keeps (fun _ => False) y0 y2) := hid (Keeps.trans (S := fun _ => False) (by repeat (first | (with_reducible exact K9.out) | (with_reducible exact Keeps.refl _ _) | (with_reducible apply Keeps.drewN) | (with_reducible apply Keeps.drew))) hk); replace K9 := K2; clear K2; have KC2 : Hd (Keeps (fun b => w.heap.size ≤ b ∧ b ≠ b_F ∧ b ≠ b_K) W45 y2) := hid (Keeps.trans' (S := (fun b => w.heap.size ≤ b ∧ b ≠ b_F ∧ b ≠ b_K)) (by repeat (first | (with_reducible exact KC.out) | (with_reducible exact Keeps.refl _ _) | (with_reducible apply Keeps.drewN) | (with_reducible apply Keeps.drew))) hk (fun _ _ h => h.elim)); replace KC := KC2; clear KC2 hk; have o0_y2 : y2.cell? ⟨p, 0, none⟩ = some (.slice sa3 sn sc3) := blk_cell (blk_keep HB3.out K9.out (fun h => h)) 0; have o1_y2 : y2.cell? ⟨p, 1, none⟩ = some (.int .i64 nx) := blk_cell (blk_keep HB3.out K9.out (fun h => h)) 1; have o2_y2 : y2.cell? ⟨p, 2, none⟩ = some (.int .u64 (k4 : Int)) := blk_cell (blk_keep HB3.out K9.out (fun h => h)) 2; have o3_y2 : y2.cell? ⟨p, 3, none⟩ = some (.int .i64 i4) := blk_cell (blk_keep HB3.out K9.out (fun h => h)) 3; have o4_y2 : y2.cell? ⟨p, 4, none⟩ = some (.int .i64 nx) := blk_cell (blk_keep HB3.out K9.out (fun h => h)) 4; have o5_y2 : y2.cell? ⟨p, 5, none⟩ = some (.slice aa3 fn ac3) := blk_cell (blk_keep HB3.out K9.out (fun h => h)) 5; have o6_y2 : y2.cell? ⟨p, 6, none⟩ = some (.bool true) := blk_cell (blk_keep HB3.out K9.out (fun h => h)) 6; have o7_y2 : y2.cell? ⟨p, 7, none⟩ = some (.int .u64 (k4 : Int)) := blk_cell (blk_keep HB3.out K9.out (fun h => h)) 7; have o8_y2 : y2.cell? ⟨p, 8, none⟩ = some (.int .i64 i4) := blk_cell (blk_keep HB3.out K9.out (fun h => h)) 8))
        all_goals
          go_wp2_with fail
          go_meet
          exact ⟨rfl, hid ⟨_, _, _, _, _, _, _, _, _, _, HW3.out.keep (by repeat (first | (with_reducible exact K9.out) | (with_reducible exact Keeps.refl _ _) | (with_reducible apply Keeps.drewN) | (with_reducible apply Keeps.drew))) (fun _ _ _ h => h)⟩, hid (blk_keep B_F.out (show Keeps (fun b => w.heap.size ≤ b ∧ b ≠ b_F ∧ b ≠ b_K) W45 _ by repeat (first | (with_reducible exact KC.out) | (with_reducible exact Keeps.refl _ _) | (with_reducible apply Keeps.drewN) | (with_reducible apply Keeps.drew))) (fun h => h.2.1 rfl)), hid (by repeat (first | (with_reducible exact KC.out) | (with_reducible exact Keeps.refl _ _) | (with_reducible apply Keeps.drewN) | (with_reducible apply Keeps.drew)))⟩
      case rest =>
      obtain ⟨rfl, HW9, B9, HK9⟩ := hcut
      generalize wc = W46 at *
      have z_W46 := HK9.out.size
      have HKn : Hd (Keeps (fun _ => False) w W46) := hid (HK.out.trans' HK9.out (fun i hi h => by have := h.1; omega))
      clear HK HW HBP B_F HK9
      have HK := HKn; have B_F := B9
      clear HKn B9
      obtain ⟨sa3, sc3, aa3, ac3, fa3, fc3, ra3, rc3, ga3, gc3, hw9⟩ := HW9.out
      have HW := hid hw9
      clear HW9
      have hb9 := hw9.blk
      simp only [N_sn.out, N_fn.out, N_f2n.out, N_rpn.out, N_gn.out, List.length_nil] at hb9
      have HBP : Hd (Blk W46 p #[(.slice sa3 sn sc3), (.int .i64 nx), (.int .u64 (k4 : Int)), (.int .i64 i4), (.int .i64 nx), (.slice aa3 fn ac3), (.bool true), (.int .u64 (k4 : Int)), (.int .i64 i4), (.slice fa3 f2n fc3), (.slice ra3 rpn rc3), (.slice ga3 gn gc3)] 60) := hid hb9
      have HML := hid (WR.lt hw9)
      clear hw9 hb9
      clear HAV HMI HST3
      have hpF : p ≠ b_F := dp3
      have ltp := blk_lt HBP.out
      have ltF := blk_lt B_F.out
      have o_HBP_3 : W46.cell? ⟨p, 3, none⟩ = some ((.int .i64 i4)) := blk_cell HBP.out 3
      have o_B_F_0 : W46.cell? ⟨b_F, 0, none⟩ = some ((.int .i64 (nx + 16 + ar))) := blk_cell B_F.out 0
      have o_B_F_1 : W46.cell? ⟨b_F, 1, none⟩ = some ((.int .i64 i2)) := blk_cell B_F.out 1
      have o_B_F_2 : W46.cell? ⟨b_F, 2, none⟩ = some ((.bool false)) := blk_cell B_F.out 2
      have o_B_F_3 : W46.cell? ⟨b_F, 3, none⟩ = some ((.slice none 0 0)) := blk_cell B_F.out 3
      have o_B_F_4 : W46.cell? ⟨b_F, 4, none⟩ = some ((.int .u64 (tg : Int))) := blk_cell B_F.out 4
      have f_B_F_0 : W46.frozen? ⟨b_F, 0, none⟩ = false := blk_free B_F.out 0
      have f_B_F_1 : W46.frozen? ⟨b_F, 1, none⟩ = false := blk_free B_F.out 1
      have f_B_F_2 : W46.frozen? ⟨b_F, 2, none⟩ = false := blk_free B_F.out 2
      have f_B_F_3 : W46.frozen? ⟨b_F, 3, none⟩ = false := blk_free B_F.out 3
      have f_B_F_4 : W46.frozen? ⟨b_F, 4, none⟩ = false := blk_free B_F.out 4
      go_upto_region 14 with fail
      clear o_HBP_3 o_B_F_0 o_B_F_1 o_B_F_2 o_B_F_3 o_B_F_4 f_B_F_0 f_B_F_1 f_B_F_2 f_B_F_3 f_B_F_4
      generalize hW : World.setCell W46 _ _ = W47
      have KS : Hd (Keeps (fun b => b = b_F) W46 W47) := hid (by rw [← hW]; exact (Keeps.setCell (S := fun b => b = b_F) (p := ⟨b_F, 1, none⟩) (Keeps.refl (fun b => b = b_F) W46) (.inl rfl) _))
      have HBP' : Hd (Blk W47 p #[(.slice sa3 sn sc3), (.int .i64 nx), (.int .u64 (k4 : Int)), (.int .i64 i4), (.int .i64 nx), (.slice aa3 fn ac3), (.bool true), (.int .u64 (k4 : Int)), (.int .i64 i4), (.slice fa3 f2n fc3), (.slice ra3 rpn rc3), (.slice ga3 gn gc3)] 60) := hid (by rw [← hW]; exact (blk_other HBP.out (by omega) _ _))
      have B_F' : Hd (Blk W47 b_F #[(.int .i64 (nx + 16 + ar)), (.int .i64 i4), (.bool false), (.slice none 0 0), (.int .u64 (tg : Int))] 25) := hid (by rw [← hW]; exact (blk_set B_F.out 1 _))
      have HW' : Hd (WR (fun b => w.heap.size ≤ b ∧ b ≠ b_F ∧ b ≠ b_K) (fun b => b ≠ b_F ∧ b ≠ b_K) W47 p ⟨⟨bs, nx, ⟨k4, i4⟩⟩, ⟨nx, fs, true, ⟨k4, i4⟩⟩, FSq, RP, GT⟩ sa3 sc3 aa3 ac3 fa3 fc3 ra3 rc3 ga3 gc3) := hid (HW.out.keep KS.out (fun b _ h1 h2 => h1.elim (fun h => h.2.1 h2) (fun h => h.1 h2)))
      clear HBP B_F HW
      have HBP := HBP'
      clear HBP'
      have B_F := B_F'
      clear B_F'
      have HW := HW'
      clear HW'
      have HK' : Hd (Keeps (fun _ => False) w W47) := hid (HK.out.trans' KS.out (fun i hi h => by omega))
      clear HK
      have HK := HK'
      clear HK'
      have z_W47 : W46.heap.size + 0 ≤ W47.heap.size := by rw [← hW]; simp
      clear hW KS
      have HF2 : Hd ((⟨nx + 16 + ar, i4, false, [], tg⟩ : Fr).ok) := hid ⟨HF0.out.q0, HF0.out.q1, by show _ ≤ i4; omega, by show i4 ≤ _; omega, fun c h => (by cases h), HTL.out, HF0.out.n⟩
      obtain ⟨en2, hen⟩ : ∃ e, covL ⟨nx + 16 + ar, i4, false, [], tg⟩ = e := ⟨_, rfl⟩
      have HEN2 := hid hen
      have HEL2 : Hd (en2.length ≤ 100) := hid (by rw [← hen]; have h := covL_len (f := ⟨nx + 16 + ar, i4, false, [], tg⟩) HF2.out; simp only [List.length_nil] at h; omega)
      have HET2 : Hd (∀ c ∈ en2, c < 256) := hid (by rw [← hen]; exact covL_lt HF2.out)
      clear hen
      obtain ⟨tg2, htg⟩ : ∃ t, tagN k4 en2 = t := ⟨_, rfl⟩
      have HTG2 := hid htg
      clear htg
      have HSN2 : Hd (∀ X, Calls Tryd.prog 14 #[.agg #[(.int .i64 (nx + 16 + ar)), (.int .i64 i4), (.bool false), (.slice none 0 0), (.int .u64 (tg : Int))]] X fun e w' => ∃ an cn, e = .returned (.slice an en2.length cn) ∧ Sl (fun b => X.heap.size ≤ b) w' (.slice an en2.length cn) (u8s en2) ∧ Keeps (fun _ => False) X w') := hid (fun X => by have h := Signed_any ⟨nx + 16 + ar, i4, false, [], tg⟩ (fun _ => True) none 0 X HF2.out (Sl.nil _ _); rw [HEN2.out] at h; exact h.mono (fun e w' ⟨a, n, c, he, hn, ho, hk⟩ => ⟨a, c, by rw [he, hn, u8s_length], (by have h := row_sl ho.row (by rw [hn]); rw [hn, u8s_length] at h; exact h), hk⟩))
      have HSG2 : Hd (∀ X a c K, Sl K X (.slice a en2.length c) (u8s en2) → Calls Tryd.prog 50 #[.agg #[.int .u64 (k4 : Int), .int .i64 i4], .slice a en2.length c] X fun e w' => e = .returned (.tuple #[.int .u64 (tg2 : Int), .agg #[.int .u64 (k5 : Int), .int .i64 i5]]) ∧ Keeps (fun _ => False) X w') := hid (fun X a c K hs => by have h := LSign_any ⟨k4, i4⟩ K _ en2 X HLK4.out hs HET2.out (by have := HEL2.out; omega); unfold signT at h; have h4 := HL5.out; unfold nextL at h4; injection h4 with h5 h6; simp only [] at h5 h6; simp only [HTG2.out, h5, h6, nextL] at h; exact h)
      have HW13 := HW
      go_upto_region 14 with fail
      go_cut [] from 113 to 128 (fun wx => Hd (Blk wx p #[(.slice sa3 sn sc3), (.int .i64 nx), (.int .u64 (k5 : Int)), (.int .i64 i5), (.int .i64 nx), (.slice aa3 fn ac3), (.bool true), (.int .u64 (k4 : Int)), (.int .i64 i4), (.slice fa3 f2n fc3), (.slice ra3 rpn rc3), (.slice ga3 gn gc3)] 60) ∧ Hd (Blk wx b_F #[(.int .i64 (nx + 16 + ar)), (.int .i64 i4), (.bool false), (.slice none 0 0), (.int .u64 (tg2 : Int))] 25) ∧ Hd (Keeps (fun b => b = p ∨ b = b_F) W47 wx))
      case first =>
        have KC : Hd (Keeps (fun _ => False) W47 W47) := hid (Keeps.refl _ _)
        rw [lUd_eq, lUe_eq]
        have sF_HBP_0 : W47.cell? ⟨p, 0, none⟩ = some ((.slice sa3 sn sc3)) := blk_cell (blk_keep HBP.out KC.out (fun h => h)) 0
        have sG_HBP_0 : W47.frozen? ⟨p, 0, none⟩ = false := blk_free (blk_keep HBP.out KC.out (fun h => h)) 0
        have sF_HBP_1 : W47.cell? ⟨p, 1, none⟩ = some ((.int .i64 nx)) := blk_cell (blk_keep HBP.out KC.out (fun h => h)) 1
        have sG_HBP_1 : W47.frozen? ⟨p, 1, none⟩ = false := blk_free (blk_keep HBP.out KC.out (fun h => h)) 1
        have sF_HBP_2 : W47.cell? ⟨p, 2, none⟩ = some ((.int .u64 (k4 : Int))) := blk_cell (blk_keep HBP.out KC.out (fun h => h)) 2
        have sG_HBP_2 : W47.frozen? ⟨p, 2, none⟩ = false := blk_free (blk_keep HBP.out KC.out (fun h => h)) 2
        have sF_HBP_3 : W47.cell? ⟨p, 3, none⟩ = some ((.int .i64 i4)) := blk_cell (blk_keep HBP.out KC.out (fun h => h)) 3
        have sG_HBP_3 : W47.frozen? ⟨p, 3, none⟩ = false := blk_free (blk_keep HBP.out KC.out (fun h => h)) 3
        have sF_HBP_4 : W47.cell? ⟨p, 4, none⟩ = some ((.int .i64 nx)) := blk_cell (blk_keep HBP.out KC.out (fun h => h)) 4
        have sG_HBP_4 : W47.frozen? ⟨p, 4, none⟩ = false := blk_free (blk_keep HBP.out KC.out (fun h => h)) 4
        have sF_HBP_5 : W47.cell? ⟨p, 5, none⟩ = some ((.slice aa3 fn ac3)) := blk_cell (blk_keep HBP.out KC.out (fun h => h)) 5
        have sG_HBP_5 : W47.frozen? ⟨p, 5, none⟩ = false := blk_free (blk_keep HBP.out KC.out (fun h => h)) 5
        have sF_HBP_6 : W47.cell? ⟨p, 6, none⟩ = some ((.bool true)) := blk_cell (blk_keep HBP.out KC.out (fun h => h)) 6
        have sG_HBP_6 : W47.frozen? ⟨p, 6, none⟩ = false := blk_free (blk_keep HBP.out KC.out (fun h => h)) 6
        have sF_HBP_7 : W47.cell? ⟨p, 7, none⟩ = some ((.int .u64 (k4 : Int))) := blk_cell (blk_keep HBP.out KC.out (fun h => h)) 7
        have sG_HBP_7 : W47.frozen? ⟨p, 7, none⟩ = false := blk_free (blk_keep HBP.out KC.out (fun h => h)) 7
        have sF_HBP_8 : W47.cell? ⟨p, 8, none⟩ = some ((.int .i64 i4)) := blk_cell (blk_keep HBP.out KC.out (fun h => h)) 8
        have sG_HBP_8 : W47.frozen? ⟨p, 8, none⟩ = false := blk_free (blk_keep HBP.out KC.out (fun h => h)) 8
        have sF_HBP_9 : W47.cell? ⟨p, 9, none⟩ = some ((.slice fa3 f2n fc3)) := blk_cell (blk_keep HBP.out KC.out (fun h => h)) 9
        have sG_HBP_9 : W47.frozen? ⟨p, 9, none⟩ = false := blk_free (blk_keep HBP.out KC.out (fun h => h)) 9
        have sF_HBP_10 : W47.cell? ⟨p, 10, none⟩ = some ((.slice ra3 rpn rc3)) := blk_cell (blk_keep HBP.out KC.out (fun h => h)) 10
        have sG_HBP_10 : W47.frozen? ⟨p, 10, none⟩ = false := blk_free (blk_keep HBP.out KC.out (fun h => h)) 10
        have sF_HBP_11 : W47.cell? ⟨p, 11, none⟩ = some ((.slice ga3 gn gc3)) := blk_cell (blk_keep HBP.out KC.out (fun h => h)) 11
        have sG_HBP_11 : W47.frozen? ⟨p, 11, none⟩ = false := blk_free (blk_keep HBP.out KC.out (fun h => h)) 11
        have sF_B_F_0 : W47.cell? ⟨b_F, 0, none⟩ = some ((.int .i64 (nx + 16 + ar))) := blk_cell (blk_keep B_F.out KC.out (fun h => h)) 0
        have sG_B_F_0 : W47.frozen? ⟨b_F, 0, none⟩ = false := blk_free (blk_keep B_F.out KC.out (fun h => h)) 0
        have sF_B_F_1 : W47.cell? ⟨b_F, 1, none⟩ = some ((.int .i64 i4)) := blk_cell (blk_keep B_F.out KC.out (fun h => h)) 1
        have sG_B_F_1 : W47.frozen? ⟨b_F, 1, none⟩ = false := blk_free (blk_keep B_F.out KC.out (fun h => h)) 1
        have sF_B_F_2 : W47.cell? ⟨b_F, 2, none⟩ = some ((.bool false)) := blk_cell (blk_keep B_F.out KC.out (fun h => h)) 2
        have sG_B_F_2 : W47.frozen? ⟨b_F, 2, none⟩ = false := blk_free (blk_keep B_F.out KC.out (fun h => h)) 2
        have sF_B_F_3 : W47.cell? ⟨b_F, 3, none⟩ = some ((.slice none 0 0)) := blk_cell (blk_keep B_F.out KC.out (fun h => h)) 3
        have sG_B_F_3 : W47.frozen? ⟨b_F, 3, none⟩ = false := blk_free (blk_keep B_F.out KC.out (fun h => h)) 3
        have sF_B_F_4 : W47.cell? ⟨b_F, 4, none⟩ = some ((.int .u64 (tg : Int))) := blk_cell (blk_keep B_F.out KC.out (fun h => h)) 4
        have sG_B_F_4 : W47.frozen? ⟨b_F, 4, none⟩ = false := blk_free (blk_keep B_F.out KC.out (fun h => h)) 4
        have LB_HBP : ∀ X, Blk X p #[(.slice sa3 sn sc3), (.int .i64 nx), (.int .u64 (k4 : Int)), (.int .i64 i4), (.int .i64 nx), (.slice aa3 fn ac3), (.bool true), (.int .u64 (k4 : Int)), (.int .i64 i4), (.slice fa3 f2n fc3), (.slice ra3 rpn rc3), (.slice ga3 gn gc3)] 60 → Blk ((X.setCell ⟨p, 2, none⟩ (.int .u64 (k5 : Int))).setCell ⟨p, 3, none⟩ (.int .i64 i5)) p #[(.slice sa3 sn sc3), (.int .i64 nx), (.int .u64 (k5 : Int)), (.int .i64 i5), (.int .i64 nx), (.slice aa3 fn ac3), (.bool true), (.int .u64 (k4 : Int)), (.int .i64 i4), (.slice fa3 f2n fc3), (.slice ra3 rpn rc3), (.slice ga3 gn gc3)] 60 := fun X h => (blk_set (blk_set h 2 _) 3 _)
        have LO_B_F_HBP : ∀ X cs T, Blk X p cs T → Blk (X.setCell ⟨b_F, 4, none⟩ (.int .u64 (tg2 : Int))) p cs T := fun X cs T h => (blk_other h (by omega) _ _)
        have LB_B_F : ∀ X, Blk X b_F #[(.int .i64 (nx + 16 + ar)), (.int .i64 i4), (.bool false), (.slice none 0 0), (.int .u64 (tg : Int))] 25 → Blk (X.setCell ⟨b_F, 4, none⟩ (.int .u64 (tg2 : Int))) b_F #[(.int .i64 (nx + 16 + ar)), (.int .i64 i4), (.bool false), (.slice none 0 0), (.int .u64 (tg2 : Int))] 25 := fun X h => (blk_set h 4 _)
        have LO_HBP_B_F : ∀ X cs T, Blk X b_F cs T → Blk ((X.setCell ⟨p, 2, none⟩ (.int .u64 (k5 : Int))).setCell ⟨p, 3, none⟩ (.int .i64 i5)) b_F cs T := fun X cs T h => (blk_other (blk_other h (by omega) _ _) (by omega) _ _)
        go_region_held (fun w' => True) (trivial)
          (first
          | (go_at_call 14; (refine (HSN2.out _).mono ?_); rintro e wy0 ⟨an, cn, rfl, hsl, hk⟩; have KC2 : Hd (Keeps (fun _ => False) W47 wy0) := hid (Keeps.trans (S := fun _ => False) (by repeat (first | (with_reducible exact KC.out) | (with_reducible exact Keeps.refl _ _) | (with_reducible apply Keeps.drewN) | (with_reducible apply Keeps.drew) | (with_reducible apply Keeps.alloc))) hk); have zc := KC.out.size; have zk := hk.size; (try simp at zk); have HSL : Hd (∀ X, Keeps (fun _ => False) wy0 X → Sl (fun _ => True) X (.slice an en2.length cn) (u8s en2)) := hid (fun X hx => (hsl.mono (fun _ _ _ => trivial)).keep hx (fun _ _ _ h => h)); clear hsl; replace KC := KC2; clear KC2; have sF_HBP_0 : wy0.cell? ⟨p, 0, none⟩ = some ((.slice sa3 sn sc3)) := blk_cell (blk_keep HBP.out KC.out (fun h => h)) 0; have sG_HBP_0 : wy0.frozen? ⟨p, 0, none⟩ = false := blk_free (blk_keep HBP.out KC.out (fun h => h)) 0; have sF_HBP_1 : wy0.cell? ⟨p, 1, none⟩ = some ((.int .i64 nx)) := blk_cell (blk_keep HBP.out KC.out (fun h => h)) 1; have sG_HBP_1 : wy0.frozen? ⟨p, 1, none⟩ = false := blk_free (blk_keep HBP.out KC.out (fun h => h)) 1; have sF_HBP_2 : wy0.cell? ⟨p, 2, none⟩ = some ((.int .u64 (k4 : Int))) := blk_cell (blk_keep HBP.out KC.out (fun h => h)) 2; have sG_HBP_2 : wy0.frozen? ⟨p, 2, none⟩ = false := blk_free (blk_keep HBP.out KC.out (fun h => h)) 2; have sF_HBP_3 : wy0.cell? ⟨p, 3, none⟩ = some ((.int .i64 i4)) := blk_cell (blk_keep HBP.out KC.out (fun h => h)) 3; have sG_HBP_3 : wy0.frozen? ⟨p, 3, none⟩ = false := blk_free (blk_keep HBP.out KC.out (fun h => h)) 3; have sF_HBP_4 : wy0.cell? ⟨p, 4, none⟩ = some ((.int .i64 nx)) := blk_cell (blk_keep HBP.out KC.out (fun h => h)) 4; have sG_HBP_4 : wy0.frozen? ⟨p, 4, none⟩ = false := blk_free (blk_keep HBP.out KC.out (fun h => h)) 4; have sF_HBP_5 : wy0.cell? ⟨p, 5, none⟩ = some ((.slice aa3 fn ac3)) := blk_cell (blk_keep HBP.out KC.out (fun h => h)) 5; have sG_HBP_5 : wy0.frozen? ⟨p, 5, none⟩ = false := blk_free (blk_keep HBP.out KC.out (fun h => h)) 5; have sF_HBP_6 : wy0.cell? ⟨p, 6, none⟩ = some ((.bool true)) := blk_cell (blk_keep HBP.out KC.out (fun h => h)) 6; have sG_HBP_6 : wy0.frozen? ⟨p, 6, none⟩ = false := blk_free (blk_keep HBP.out KC.out (fun h => h)) 6; have sF_HBP_7 : wy0.cell? ⟨p, 7, none⟩ = some ((.int .u64 (k4 : Int))) := blk_cell (blk_keep HBP.out KC.out (fun h => h)) 7; have sG_HBP_7 : wy0.frozen? ⟨p, 7, none⟩ = false := blk_free (blk_keep HBP.out KC.out (fun h => h)) 7; have sF_HBP_8 : wy0.cell? ⟨p, 8, none⟩ = some ((.int .i64 i4)) := blk_cell (blk_keep HBP.out KC.out (fun h => h)) 8; have sG_HBP_8 : wy0.frozen? ⟨p, 8, none⟩ = false := blk_free (blk_keep HBP.out KC.out (fun h => h)) 8; have sF_HBP_9 : wy0.cell? ⟨p, 9, none⟩ = some ((.slice fa3 f2n fc3)) := blk_cell (blk_keep HBP.out KC.out (fun h => h)) 9; have sG_HBP_9 : wy0.frozen? ⟨p, 9, none⟩ = false := blk_free (blk_keep HBP.out KC.out (fun h => h)) 9; have sF_HBP_10 : wy0.cell? ⟨p, 10, none⟩ = some ((.slice ra3 rpn rc3)) := blk_cell (blk_keep HBP.out KC.out (fun h => h)) 10; have sG_HBP_10 : wy0.frozen? ⟨p, 10, none⟩ = false := blk_free (blk_keep HBP.out KC.out (fun h => h)) 10; have sF_HBP_11 : wy0.cell? ⟨p, 11, none⟩ = some ((.slice ga3 gn gc3)) := blk_cell (blk_keep HBP.out KC.out (fun h => h)) 11; have sG_HBP_11 : wy0.frozen? ⟨p, 11, none⟩ = false := blk_free (blk_keep HBP.out KC.out (fun h => h)) 11; have sF_B_F_0 : wy0.cell? ⟨b_F, 0, none⟩ = some ((.int .i64 (nx + 16 + ar))) := blk_cell (blk_keep B_F.out KC.out (fun h => h)) 0; have sG_B_F_0 : wy0.frozen? ⟨b_F, 0, none⟩ = false := blk_free (blk_keep B_F.out KC.out (fun h => h)) 0; have sF_B_F_1 : wy0.cell? ⟨b_F, 1, none⟩ = some ((.int .i64 i4)) := blk_cell (blk_keep B_F.out KC.out (fun h => h)) 1; have sG_B_F_1 : wy0.frozen? ⟨b_F, 1, none⟩ = false := blk_free (blk_keep B_F.out KC.out (fun h => h)) 1; have sF_B_F_2 : wy0.cell? ⟨b_F, 2, none⟩ = some ((.bool false)) := blk_cell (blk_keep B_F.out KC.out (fun h => h)) 2; have sG_B_F_2 : wy0.frozen? ⟨b_F, 2, none⟩ = false := blk_free (blk_keep B_F.out KC.out (fun h => h)) 2; have sF_B_F_3 : wy0.cell? ⟨b_F, 3, none⟩ = some ((.slice none 0 0)) := blk_cell (blk_keep B_F.out KC.out (fun h => h)) 3; have sG_B_F_3 : wy0.frozen? ⟨b_F, 3, none⟩ = false := blk_free (blk_keep B_F.out KC.out (fun h => h)) 3; have sF_B_F_4 : wy0.cell? ⟨b_F, 4, none⟩ = some ((.int .u64 (tg : Int))) := blk_cell (blk_keep B_F.out KC.out (fun h => h)) 4; have sG_B_F_4 : wy0.frozen? ⟨b_F, 4, none⟩ = false := blk_free (blk_keep B_F.out KC.out (fun h => h)) 4; replace hk := hid hk)
          | (go_at_call 50; (refine (HSG2.out _ _ _ _ (HSL.out _ (by repeat (first | (with_reducible exact Keeps.refl _ _) | (with_reducible apply Keeps.drewN) | (with_reducible apply Keeps.drew))))).mono ?_); rintro e wy1 ⟨rfl, hk⟩; have KC2 : Hd (Keeps (fun _ => False) W47 wy1) := hid (Keeps.trans (S := fun _ => False) (by repeat (first | (with_reducible exact KC.out) | (with_reducible exact Keeps.refl _ _) | (with_reducible apply Keeps.drewN) | (with_reducible apply Keeps.drew) | (with_reducible apply Keeps.alloc))) hk); have zc := KC.out.size; have zk := hk.size; (try simp at zk); replace KC := KC2; clear KC2; have sF_HBP_0 : wy1.cell? ⟨p, 0, none⟩ = some ((.slice sa3 sn sc3)) := blk_cell (blk_keep HBP.out KC.out (fun h => h)) 0; have sG_HBP_0 : wy1.frozen? ⟨p, 0, none⟩ = false := blk_free (blk_keep HBP.out KC.out (fun h => h)) 0; have sF_HBP_1 : wy1.cell? ⟨p, 1, none⟩ = some ((.int .i64 nx)) := blk_cell (blk_keep HBP.out KC.out (fun h => h)) 1; have sG_HBP_1 : wy1.frozen? ⟨p, 1, none⟩ = false := blk_free (blk_keep HBP.out KC.out (fun h => h)) 1; have sF_HBP_2 : wy1.cell? ⟨p, 2, none⟩ = some ((.int .u64 (k4 : Int))) := blk_cell (blk_keep HBP.out KC.out (fun h => h)) 2; have sG_HBP_2 : wy1.frozen? ⟨p, 2, none⟩ = false := blk_free (blk_keep HBP.out KC.out (fun h => h)) 2; have sF_HBP_3 : wy1.cell? ⟨p, 3, none⟩ = some ((.int .i64 i4)) := blk_cell (blk_keep HBP.out KC.out (fun h => h)) 3; have sG_HBP_3 : wy1.frozen? ⟨p, 3, none⟩ = false := blk_free (blk_keep HBP.out KC.out (fun h => h)) 3; have sF_HBP_4 : wy1.cell? ⟨p, 4, none⟩ = some ((.int .i64 nx)) := blk_cell (blk_keep HBP.out KC.out (fun h => h)) 4; have sG_HBP_4 : wy1.frozen? ⟨p, 4, none⟩ = false := blk_free (blk_keep HBP.out KC.out (fun h => h)) 4; have sF_HBP_5 : wy1.cell? ⟨p, 5, none⟩ = some ((.slice aa3 fn ac3)) := blk_cell (blk_keep HBP.out KC.out (fun h => h)) 5; have sG_HBP_5 : wy1.frozen? ⟨p, 5, none⟩ = false := blk_free (blk_keep HBP.out KC.out (fun h => h)) 5; have sF_HBP_6 : wy1.cell? ⟨p, 6, none⟩ = some ((.bool true)) := blk_cell (blk_keep HBP.out KC.out (fun h => h)) 6; have sG_HBP_6 : wy1.frozen? ⟨p, 6, none⟩ = false := blk_free (blk_keep HBP.out KC.out (fun h => h)) 6; have sF_HBP_7 : wy1.cell? ⟨p, 7, none⟩ = some ((.int .u64 (k4 : Int))) := blk_cell (blk_keep HBP.out KC.out (fun h => h)) 7; have sG_HBP_7 : wy1.frozen? ⟨p, 7, none⟩ = false := blk_free (blk_keep HBP.out KC.out (fun h => h)) 7; have sF_HBP_8 : wy1.cell? ⟨p, 8, none⟩ = some ((.int .i64 i4)) := blk_cell (blk_keep HBP.out KC.out (fun h => h)) 8; have sG_HBP_8 : wy1.frozen? ⟨p, 8, none⟩ = false := blk_free (blk_keep HBP.out KC.out (fun h => h)) 8; have sF_HBP_9 : wy1.cell? ⟨p, 9, none⟩ = some ((.slice fa3 f2n fc3)) := blk_cell (blk_keep HBP.out KC.out (fun h => h)) 9; have sG_HBP_9 : wy1.frozen? ⟨p, 9, none⟩ = false := blk_free (blk_keep HBP.out KC.out (fun h => h)) 9; have sF_HBP_10 : wy1.cell? ⟨p, 10, none⟩ = some ((.slice ra3 rpn rc3)) := blk_cell (blk_keep HBP.out KC.out (fun h => h)) 10; have sG_HBP_10 : wy1.frozen? ⟨p, 10, none⟩ = false := blk_free (blk_keep HBP.out KC.out (fun h => h)) 10; have sF_HBP_11 : wy1.cell? ⟨p, 11, none⟩ = some ((.slice ga3 gn gc3)) := blk_cell (blk_keep HBP.out KC.out (fun h => h)) 11; have sG_HBP_11 : wy1.frozen? ⟨p, 11, none⟩ = false := blk_free (blk_keep HBP.out KC.out (fun h => h)) 11; have sF_B_F_0 : wy1.cell? ⟨b_F, 0, none⟩ = some ((.int .i64 (nx + 16 + ar))) := blk_cell (blk_keep B_F.out KC.out (fun h => h)) 0; have sG_B_F_0 : wy1.frozen? ⟨b_F, 0, none⟩ = false := blk_free (blk_keep B_F.out KC.out (fun h => h)) 0; have sF_B_F_1 : wy1.cell? ⟨b_F, 1, none⟩ = some ((.int .i64 i4)) := blk_cell (blk_keep B_F.out KC.out (fun h => h)) 1; have sG_B_F_1 : wy1.frozen? ⟨b_F, 1, none⟩ = false := blk_free (blk_keep B_F.out KC.out (fun h => h)) 1; have sF_B_F_2 : wy1.cell? ⟨b_F, 2, none⟩ = some ((.bool false)) := blk_cell (blk_keep B_F.out KC.out (fun h => h)) 2; have sG_B_F_2 : wy1.frozen? ⟨b_F, 2, none⟩ = false := blk_free (blk_keep B_F.out KC.out (fun h => h)) 2; have sF_B_F_3 : wy1.cell? ⟨b_F, 3, none⟩ = some ((.slice none 0 0)) := blk_cell (blk_keep B_F.out KC.out (fun h => h)) 3; have sG_B_F_3 : wy1.frozen? ⟨b_F, 3, none⟩ = false := blk_free (blk_keep B_F.out KC.out (fun h => h)) 3; have sF_B_F_4 : wy1.cell? ⟨b_F, 4, none⟩ = some ((.int .u64 (tg : Int))) := blk_cell (blk_keep B_F.out KC.out (fun h => h)) 4; have sG_B_F_4 : wy1.frozen? ⟨b_F, 4, none⟩ = false := blk_free (blk_keep B_F.out KC.out (fun h => h)) 4; replace hk := hid hk))
        all_goals
          go_wp2_with fail
          go_meet
          exact ⟨hid (by repeat (first | (with_reducible refine LB_HBP _ ?_) | (with_reducible refine blk_other ?_ (by first | omega | (simp only [World.size_alloc, World.size_drew]; omega) | fail) _ _) | (with_reducible apply blk_drewN) | (with_reducible apply blk_drew) | (with_reducible refine blk_alloc ?_ _) | (with_reducible exact blk_keep HBP.out KC.out (fun h => h)))), hid (by repeat (first | (with_reducible refine LB_B_F _ ?_) | (with_reducible refine blk_other ?_ (by first | omega | (simp only [World.size_alloc, World.size_drew]; omega) | fail) _ _) | (with_reducible apply blk_drewN) | (with_reducible apply blk_drew) | (with_reducible refine blk_alloc ?_ _) | (with_reducible exact blk_keep B_F.out KC.out (fun h => h)))), hid (by repeat (first | (with_reducible refine Keeps.setCell (S := fun b => b = p ∨ b = b_F) ?_ (.inl (by first | (with_reducible rfl) | (simp <;> fail) | fail)) _) | (with_reducible apply Keeps.drewN) | (with_reducible apply Keeps.drew) | (with_reducible exact KC.out) | (with_reducible exact Keeps.refl _ _) | (with_reducible exact KC.out.mono (fun _ _ h => h.elim))))⟩
      case rest =>
        obtain ⟨N_HBP, N_B_F, hk⟩ := hcut
        replace hk := hk.out
        generalize wc = W48 at *
        clear HBP
        have HBP := N_HBP
        clear N_HBP
        clear B_F
        have B_F := N_B_F
        clear N_B_F
        have HK' : Hd (Keeps (fun _ => False) w W48) := hid (HK.out.trans' hk (fun i hi h => by omega))
        clear HK
        have HK := HK'
        clear HK'
        have KCUT := hid hk
        have z_W48 := hk.size
        clear hk
        have HW : Hd (WR (fun b => w.heap.size ≤ b ∧ b ≠ b_F ∧ b ≠ b_K) (fun b => b ≠ b_F ∧ b ≠ b_K) W48 p ⟨⟨bs, nx, ⟨k5, i5⟩⟩, ⟨nx, fs, true, ⟨k4, i4⟩⟩, FSq, RP, GT⟩ sa3 sc3 aa3 ac3 fa3 fc3 ra3 rc3 ga3 gc3) := hid (HW13.out.upSx KCUT.out (fun b _ h => h.elim .inl (fun e => .inr ⟨fun h => h.1 e, fun h => h.2.1 e⟩)) (s := ⟨bs, nx, ⟨k5, i5⟩⟩) (sa2 := sa3) (sc2 := sc3) (by simp only [N_sn.out, N_fn.out, N_f2n.out, N_rpn.out, N_gn.out]; exact HBP.out) (HW13.out.sb.keep KCUT.out (fun b _ h e => e.elim (fun e => h.2 (.inl e)) (fun e => h.1.1 e))))
        clear HW13 KCUT HSN2 HSG2
        have HF3 : Hd (far2F MM far = ⟨nx + 16 + ar, i4, false, [], tg2⟩) := hid (by unfold far2F signF; rw [roundS_l HI.out, HMM.out]; simp only [setK, HL4.out]; rw [HARD.out]; rw [show covL ⟨nx + 16 + ar, i4, false, [], 0⟩ = covL ⟨nx + 16 + ar, i4, false, [], tg⟩ from rfl, HEN2.out, HTG2.out])
        have HR2 : Hd (recvM ⟨nx, fs, true, ⟨k4, i4⟩⟩ ⟨nx + 16 + ar, i4, false, [], tg2⟩ = (⟨nx, fs, true, ⟨k5, i5⟩⟩, [], 31)) := hid (by have h := HFB.out; rw [HF3.out, HMM.out] at h; unfold lockR at h; simp only [HL4.out, HL5.out] at h; exact h)
        have HTL2 : Hd (tg2 < 18446744073709551616) := hid (by rw [← HTG2.out]; exact tagN_lt _ _)
        have HFK2 : Hd (Fr.ok ⟨nx + 16 + ar, i4, false, [], tg2⟩) := hid ⟨HF2.out.q0, HF2.out.q1, HF2.out.k0, HF2.out.k1, fun c h => (by cases h), HTL2.out, HF2.out.n⟩
        have HAV2 : Hd (∀ X, Keeps (fun _ => False) W48 X → Calls Tryd.prog 51 #[.pointer (some ⟨p, 0, none⟩), .agg #[.int .i64 (nx + 16 + ar), .int .i64 i4, .bool false, .slice none 0 0, .int .u64 (tg2 : Int)]] X fun e w' => e = .returned (.int .i64 31) ∧ WRx (fun b => w.heap.size ≤ b ∧ b ≠ b_F ∧ b ≠ b_K) (fun b => b ≠ b_F ∧ b ≠ b_K) w' p ⟨⟨bs, nx, ⟨k5, i5⟩⟩, ⟨nx, fs, true, ⟨k5, i5⟩⟩, FSq, RP, GT⟩ ∧ Keeps (fun b => w.heap.size ≤ b ∧ b ≠ b_F ∧ b ≠ b_K) X w') := hid (fun X hx => by
          have h := arrive_any ⟨⟨bs, nx, ⟨k5, i5⟩⟩, ⟨nx, fs, true, ⟨k4, i4⟩⟩, FSq, RP, GT⟩ p ⟨nx + 16 + ar, i4, false, [], tg2⟩ none 0 (fun b => w.heap.size ≤ b ∧ b ≠ b_F ∧ b ≠ b_K) (fun b => b ≠ b_F ∧ b ≠ b_K) (fun _ => True) X ⟨_, _, _, _, _, _, _, _, _, _, HW.out.keep hx (fun _ _ _ h => h)⟩ (fun b hb => by have hb2 := Nat.le_trans hx.size hb; exact ⟨⟨by omega, by omega, by omega⟩, by omega, by omega⟩) (Sl.nil _ _) _ (HRK.out k4 i4 HLK4.out (by omega)) (by decide) HFK2.out HGT.out
          unfold arriveM at h; rw [HR2.out] at h; simp only [List.append_nil] at h; exact h)
        go_upto_region 15 with fail
        go_cut [140] from 129 to 140 (fun u9 wx => u9 = .bool false ∧ Hd (WRx (fun b => w.heap.size ≤ b ∧ b ≠ b_F ∧ b ≠ b_K) (fun b => b ≠ b_F ∧ b ≠ b_K) wx p ⟨⟨bs, nx, ⟨k5, i5⟩⟩, ⟨nx, fs, true, ⟨k5, i5⟩⟩, FSq, RP, GT⟩) ∧ Hd (Blk wx b_F #[(.int .i64 (nx + 16 + ar)), (.int .i64 i4), (.bool false), (.slice none 0 0), (.int .u64 (tg2 : Int))] 25) ∧ Hd (Keeps (fun b => w.heap.size ≤ b ∧ b ≠ b_F ∧ b ≠ b_K) W48 wx))
        case first =>
          have HSS : Hd (∀ w', Keeps (fun b => w.heap.size ≤ b ∧ b ≠ b_F ∧ b ≠ b_K) W48 w' → (w'.cell? ⟨b_F, 0, none⟩ = some ((.int .i64 (nx + 16 + ar))) ∧ w'.cell? ⟨b_F, 1, none⟩ = some ((.int .i64 i4)) ∧ w'.cell? ⟨b_F, 2, none⟩ = some ((.bool false)) ∧ w'.cell? ⟨b_F, 3, none⟩ = some ((.slice none 0 0)) ∧ w'.cell? ⟨b_F, 4, none⟩ = some ((.int .u64 (tg2 : Int))))) := hid (fun w' hk => ⟨blk_cell (blk_keep B_F.out hk (fun h => h.2.1 rfl)) 0, blk_cell (blk_keep B_F.out hk (fun h => h.2.1 rfl)) 1, blk_cell (blk_keep B_F.out hk (fun h => h.2.1 rfl)) 2, blk_cell (blk_keep B_F.out hk (fun h => h.2.1 rfl)) 3, blk_cell (blk_keep B_F.out hk (fun h => h.2.1 rfl)) 4⟩)
          have KC : Hd (Keeps (fun b => w.heap.size ≤ b ∧ b ≠ b_F ∧ b ≠ b_K) W48 W48) := hid (Keeps.refl _ _)
          have of0 := blk_cell B_F.out 0
          have of1 := blk_cell B_F.out 1
          have of2 := blk_cell B_F.out 2
          have of3 := blk_cell B_F.out 3
          have of4 := blk_cell B_F.out 4
          go_wp2_with fail
          ((refine (HAV2.out _ (by repeat (first | (with_reducible exact Keeps.refl _ _) | (with_reducible apply Keeps.drewN) | (with_reducible apply Keeps.drew)))).mono ?_); rintro e y0 ⟨rfl, ⟨sa5, sc5, aa5, ac5, fa5, fc5, ra5, rc5, ga5, gc5, hw3⟩, hk⟩; have HW3 := hid hw3; have hb3 := hw3.blk; (simp only [N_sn.out, N_fn.out, N_f2n.out, N_rpn.out, N_gn.out, List.length_nil] at hb3); have HB3 : Hd (Blk y0 p #[(.slice sa5 sn sc5), (.int .i64 nx), (.int .u64 (k5 : Int)), (.int .i64 i5), (.int .i64 nx), (.slice aa5 fn ac5), (.bool true), (.int .u64 (k5 : Int)), (.int .i64 i5), (.slice fa5 f2n fc5), (.slice ra5 rpn rc5), (.slice ga5 gn gc5)] 60) := hid hb3; have KC2 : Hd (Keeps (fun b => w.heap.size ≤ b ∧ b ≠ b_F ∧ b ≠ b_K) W48 y0) := hid (Keeps.trans (S := (fun b => w.heap.size ≤ b ∧ b ≠ b_F ∧ b ≠ b_K)) (by repeat (first | (with_reducible exact Keeps.refl _ _) | (with_reducible apply Keeps.drewN) | (with_reducible apply Keeps.drew))) hk); replace KC := KC2; clear KC2 hw3 hb3 hk; have K9 : Hd (Keeps (fun _ => False) y0 y0) := hid (Keeps.refl _ _); have o6_y0 : y0.cell? ⟨p, 6, none⟩ = some (.bool true) := blk_cell (blk_keep HB3.out K9.out (fun h => h)) 6)
          go_wp2_with fail
          go_meet
          exact ⟨rfl, hid ⟨_, _, _, _, _, _, _, _, _, _, HW3.out.keep (by repeat (first | (with_reducible exact K9.out) | (with_reducible exact Keeps.refl _ _) | (with_reducible apply Keeps.drewN) | (with_reducible apply Keeps.drew))) (fun _ _ _ h => h)⟩, hid (blk_keep B_F.out (show Keeps (fun b => w.heap.size ≤ b ∧ b ≠ b_F ∧ b ≠ b_K) W48 _ by repeat (first | (with_reducible exact KC.out) | (with_reducible exact Keeps.refl _ _) | (with_reducible apply Keeps.drewN) | (with_reducible apply Keeps.drew))) (fun h => h.2.1 rfl)), hid (by repeat (first | (with_reducible exact KC.out) | (with_reducible exact Keeps.refl _ _) | (with_reducible apply Keeps.drewN) | (with_reducible apply Keeps.drew)))⟩
        case rest =>
        obtain ⟨rfl, HW9, B9, HK9⟩ := hcut
        generalize wc = W49 at *
        have z_W49 := HK9.out.size
        have HKn : Hd (Keeps (fun _ => False) w W49) := hid (HK.out.trans' HK9.out (fun i hi h => by have := h.1; omega))
        clear HK HW HBP B_F HK9
        have HK := HKn; have B_F := B9
        clear HKn B9
        obtain ⟨sa5, sc5, aa5, ac5, fa5, fc5, ra5, rc5, ga5, gc5, hw9⟩ := HW9.out
        have HW := hid hw9
        clear HW9
        have hb9 := hw9.blk
        simp only [N_sn.out, N_fn.out, N_f2n.out, N_rpn.out, N_gn.out, List.length_nil] at hb9
        have HBP : Hd (Blk W49 p #[(.slice sa5 sn sc5), (.int .i64 nx), (.int .u64 (k5 : Int)), (.int .i64 i5), (.int .i64 nx), (.slice aa5 fn ac5), (.bool true), (.int .u64 (k5 : Int)), (.int .i64 i5), (.slice fa5 f2n fc5), (.slice ra5 rpn rc5), (.slice ga5 gn gc5)] 60) := hid hb9
        have HML := hid (WR.lt hw9)
        clear hw9 hb9
        clear HAV2
        obtain ⟨a3, ha3⟩ : ∃ k, around far 3 = k := ⟨_, rfl⟩
        have HA3 := hid ha3
        have hab3 := around_b far (show (1 : Int) ≤ 3 by omega)
        rw [ha3] at hab3
        clear ha3
        have hs3 : IntKind.i64.wrap (nx - a3) = nx - a3 := IntWalk.i64_in _ (by omega)
        have HAR3 : Hd (∀ X, Calls Tryd.prog 22 #[.int .i64 far, .int .i64 3] X fun e w' => e = .returned (.int .i64 a3) ∧ Keeps (fun _ => False) X w') := hid (fun X => by have h := around_K far 3 X hf0 hf1 (by decide) (by decide); rw [HA3.out] at h; exact h)
        obtain ⟨U, hU⟩ : ∃ U, signF ⟨k5, i5⟩ ⟨nx - a3, 0, true, [], 0⟩ = U := ⟨_, rfl⟩
        have HU := hid hU
        have HUB : Hd (U.b = []) := hid (by rw [← hU]; rfl)
        have HUL : Hd (U.b.length = 0) := hid (by rw [← hU]; rfl)
        clear hU
        have HUK : Hd (U.ok) := hid (by rw [← HU.out]; exact signF_okx HLK5.out (by show _ ≤ nx - a3; omega) (by show nx - a3 ≤ _; omega) (fun c h => (by cases h)) (by simp))
        have HUN : Hd (∀ X, Keeps (fun _ => False) W49 X → Calls Tryd.prog 42 #[.agg #[.slice sa5 sn sc5, .int .i64 nx, .int .u64 (k5 : Int), .int .i64 i5], .int .i64 (nx - a3)] X fun e w' => ∃ a2 c2, e = .returned (.tuple #[.agg #[.int .i64 U.q, .int .i64 U.k, .bool U.u, .slice none 0 0, .int .u64 (U.t : Int)], .agg #[.slice a2 sn c2, .int .i64 nx, .int .u64 (k6 : Int), .int .i64 i6]]) ∧ Bds (fun b => X.heap.size ≤ b) w' (.slice a2 sn c2) bs ∧ Keeps (fun _ => False) X w') := hid (fun X hx => by have h := Unlock_any bs sa5 sc5 nx ⟨k5, i5⟩ (nx - a3) _ X (by have h := HW.out.sb; simp only [N_sn.out] at h; rw [N_sn.out]; exact h.keep hx (fun _ _ _ h => h)) (by rw [N_sn.out]; omega) (by have h := HI.out.bl; rw [HMM.out] at h; exact h) HLK5.out (by omega) (by omega); unfold UnlR at h; rw [HU.out, HL6.out, N_sn.out] at h; exact h)
        have o_HBP_4 : W49.cell? ⟨p, 4, none⟩ = some ((.int .i64 nx)) := blk_cell HBP.out 4
        go_upto_region 18 with fail
        clear o_HBP_4
        go_cut [13, 14] from 146 to 157 (fun u13 u14 wx => ∃ (a1 : Option Addr) (c1 : Nat) (a6 : Option Addr) (c6 : Nat), ∃ bU, u13 = .pointer (some ⟨bU, 0, none⟩) ∧ ∃ bS, u14 = .pointer (some ⟨bS, 0, none⟩) ∧ W49.heap.size ≤ bU ∧ W49.heap.size ≤ bS ∧ Hd (Blk wx bU #[(.int .i64 U.q), (.int .i64 U.k), (.bool U.u), (.slice a1 0 c1), (.int .u64 (U.t : Int))] 25) ∧ Hd (Blk wx bS #[(.slice a6 sn c6), (.int .i64 nx), (.int .u64 (k6 : Int)), (.int .i64 i6)] 57) ∧ Hd (Sl (fun b => W49.heap.size ≤ b) wx (.slice a1 0 c1) (u8s U.b)) ∧ Hd (Bds (fun b => W49.heap.size ≤ b) wx (.slice a6 sn c6) bs) ∧ Hd (Keeps (fun _ => False) W49 wx))
        case first =>
          refine wp_two (C := emCfg [8, 9, 10, 11, 12, 13, 14, 15] 155 146 156 157 13 14 [.pointer (some ⟨p, 0, none⟩), .pointer (some ⟨p, 0, none⟩), .pointer (some ⟨p, 0, none⟩), .agg #[.slice sa5 sn sc5, .int .i64 nx, .int .u64 (k5 : Int), .int .i64 i5], .int .i64 nx, .int .i64 far, .int .i64 a3, .int .i64 (nx - a3), undef, undef, undef, undef, undef, undef, undef, undef] [] U ⟨bs, nx, ⟨k6, i6⟩⟩) (by kernel_rfl) ?H ?HV 8 rfl ?HC ?HE
          case H => exact ⟨by kernel_rfl, uniqB_spec (by kernel_rfl), underB_spec (by kernel_rfl), ⟨_, rfl, rfl⟩, ⟨_, rfl, rfl, rfl, rfl, waitsB_spec (by kernel_rfl)⟩, ⟨_, rfl, rfl, rfl, rfl, waitsB_spec (by kernel_rfl)⟩, ⟨_, rfl, rfl, rfl, rfl, waitsB_spec (by kernel_rfl)⟩, ⟨_, rfl, rfl, rfl, rfl⟩, ⟨_, rfl, rfl, rfl, rfl⟩, ⟨_, rfl, rfl, rfl, rfl, waitsB_spec (by kernel_rfl), waitsB_spec (by kernel_rfl)⟩, ⟨_, rfl, rfl, rfl, rfl, waitsB_spec (by kernel_rfl), waitsB_spec (by kernel_rfl)⟩, emVal (by kernel_rfl), emAll (by kernel_rfl), ⟨rfl, rfl, rfl, rfl, rfl, rfl, rfl, rfl⟩, emNd (by decide), emSem _ _ _ _ _ _ _ _ _ _ _⟩
          case HV =>
            intro iq o hv hi aq w' hk hd
            match iq, hv, hi with
            | 0, _, hi =>
              have hi1 := hi
              simp only [List.getElem?_cons_succ, List.getElem?_cons_zero, Option.some.injEq] at hi1
              subst hi1
              have e0 : aq.eval (.tmp 7) = .pointer (some ⟨p, 0, none⟩) := (hd.out (by kernel_rfl)).trans rfl
              exact wpOp_ranL hi rfl (v := .pointer (some ⟨p, 0, none⟩)) (w' := w') (by simp only [execOp, e0]; rfl) ⟨rfl, Keeps.refl _ _⟩
            | 1, _, hi =>
              have hi1 := hi
              simp only [List.getElem?_cons_succ, List.getElem?_cons_zero, Option.some.injEq] at hi1
              subst hi1
              have e0 : aq.eval (.tmp 147) = .pointer (some ⟨p, 0, none⟩) := hd.val (j := 0) (by kernel_rfl) rfl rfl rfl
              exact wpOp_ranL hi rfl (v := .pointer (some ⟨p, 0, none⟩)) (w' := w') (by simp only [execOp, e0]; rfl) ⟨rfl, Keeps.refl _ _⟩
            | 2, _, hi =>
              have hi1 := hi
              simp only [List.getElem?_cons_succ, List.getElem?_cons_zero, Option.some.injEq] at hi1
              subst hi1
              have e0 : aq.eval (.tmp 148) = .pointer (some ⟨p, 0, none⟩) := hd.val (j := 1) (by kernel_rfl) rfl rfl rfl
              exact wpOp_ranL hi rfl (v := .pointer (some ⟨p, 0, none⟩)) (w' := w') (by simp only [execOp, e0]; go_simp) ⟨rfl, Keeps.refl _ _⟩
            | 3, _, hi =>
              have hi1 := hi
              simp only [List.getElem?_cons_succ, List.getElem?_cons_zero, Option.some.injEq] at hi1
              subst hi1
              have e0 : aq.eval (.tmp 149) = .pointer (some ⟨p, 0, none⟩) := hd.val (j := 2) (by kernel_rfl) rfl rfl rfl
              have c0 := keep_cell hk (fun h => h) (blk_cell HBP.out 0)
              have c1 := keep_cell hk (fun h => h) (blk_cell HBP.out 1)
              have c2 := keep_cell hk (fun h => h) (blk_cell HBP.out 2)
              have c3 := keep_cell hk (fun h => h) (blk_cell HBP.out 3)
              exact wpOp_ranL hi rfl (v := .agg #[.slice sa5 sn sc5, .int .i64 nx, .int .u64 (k5 : Int), .int .i64 i5]) (w' := w') (by simp only [execOp, e0]; go_simp) ⟨rfl, Keeps.refl _ _⟩
            | 4, _, hi =>
              have hi1 := hi
              simp only [List.getElem?_cons_succ, List.getElem?_cons_zero, Option.some.injEq] at hi1
              subst hi1
              have e0 : aq.eval (.tmp 12) = .int .i64 nx := (hd.out (by kernel_rfl)).trans rfl
              exact wpOp_ranL hi rfl (v := .int .i64 nx) (w' := w') (by simp only [execOp, e0]; rfl) ⟨rfl, Keeps.refl _ _⟩
            | 5, _, hi =>
              have hi1 := hi
              simp only [List.getElem?_cons_succ, List.getElem?_cons_zero, Option.some.injEq] at hi1
              subst hi1
              have e0 : aq.eval (.tmp 2) = .int .i64 far := (hd.out (by kernel_rfl)).trans rfl
              exact wpOp_ranL hi rfl (v := .int .i64 far) (w' := w') (by simp only [execOp, e0]; rfl) ⟨rfl, Keeps.refl _ _⟩
            | 6, _, hi =>
              have hi1 := hi
              simp only [List.getElem?_cons_succ, List.getElem?_cons_zero, Option.some.injEq] at hi1
              subst hi1
              have e0 : aq.eval (.tmp 152) = .int .i64 far := hd.val (j := 5) (by kernel_rfl) rfl rfl rfl
              exact wpOp_callL hi rfl (f := 22) (args := #[.int .i64 far, .int .i64 3]) (by simp only [execOp_call_go, List.map_toArray, List.map_cons, List.map_nil, e0]; rfl) ((HAR3.out _).mono (fun e w2 ⟨he, hk2⟩ => ⟨_, he, rfl, hk2⟩))
            | 7, _, hi =>
              have hi1 := hi
              simp only [List.getElem?_cons_succ, List.getElem?_cons_zero, Option.some.injEq] at hi1
              subst hi1
              have e0 : aq.eval (.tmp 151) = .int .i64 nx := hd.val (j := 4) (by kernel_rfl) rfl rfl rfl
              have e1 : aq.eval (.tmp 153) = .int .i64 a3 := hd.val (j := 6) (by kernel_rfl) rfl rfl rfl
              exact wpOp_ranL hi rfl (v := .int .i64 (nx - a3)) (w' := w') (by simp only [execOp, e0, e1]; go_simp) ⟨rfl, Keeps.refl _ _⟩
            | 8, hv, _ => cases hv
            | 9, hv, _ => cases hv
            | 10, hv, _ => cases hv
            | 11, hv, _ => cases hv
            | 12, hv, _ => cases hv
            | 13, hv, _ => cases hv
            | 14, hv, _ => cases hv
            | 15, hv, _ => cases hv
            | n + 16, _, hi => simp at hi
          case HC =>
            intro o hi aq w' hk hd
            have hi1 := hi
            simp only [List.getElem?_cons_succ, List.getElem?_cons_zero, Option.some.injEq] at hi1
            subst hi1
            have e0 : aq.eval (.tmp 150) = .agg #[.slice sa5 sn sc5, .int .i64 nx, .int .u64 (k5 : Int), .int .i64 i5] := hd.val (j := 3) (by kernel_rfl) rfl rfl rfl
            have e1 : aq.eval (.tmp 154) = .int .i64 (nx - a3) := hd.val (j := 7) (by kernel_rfl) rfl rfl rfl
            exact wpOp_callL hi rfl (f := 42) (args := #[.agg #[.slice sa5 sn sc5, .int .i64 nx, .int .u64 (k5 : Int), .int .i64 i5], .int .i64 (nx - a3)]) (by simp only [execOp_call_go, List.map_toArray, List.map_cons, List.map_nil, e0, e1]; rfl) ((HUN.out _ hk).mono (fun e w2 ⟨a2, c2, he, hbd, hk2⟩ => ⟨_, he, _, _, rfl, hk2, none, 0, a2, c2, by rw [HUL.out], by simp only [N_sn.out], by rw [HUL.out, HUB.out]; exact Sl.nil _ _, by simp only [N_sn.out]; exact hbd⟩))
          case HE =>
            intro L aq w' gF gS xx yy hL hT
            have em := act_mix (bs := [true, true, true, true, true, true, true, true, true, true, true, true, true, false, false, true, true, true, true, true, true, true, true, true, true, true, true, true, true, true, true, true, true, true, true, true, true, true, true, true, true, true, true, true, true, true, true, true, true, true, true, true, true, true, true, true, true, true, true, true, true, true, true, true, true, true, true, true, true, true, true, true, true, true, true, true, true, true, true, true, true, true, true, true, true, true, true, true, true, true, true, true, true, true, true, true, true, true, true, true, true, true, true, true, true, true, true, true, true, true, true, true, true, true, true, true, true, true, true, true, true, true, true, true, true, true, true, true, true, true, true, true, true, true, true, true, true, true, true, true, true, true, true, true, true, true, false, false, false, false, false, false, false, false, false, false, false, false, true, true, true, true, true, true, true, true, true, true, true, true, true, true, true, true, true, true, true, true, true, true, true, true, true, true, true, true, true, true, true, true, true, true, true, true, true, true, true, true, true, true, true, true, true, true, true, true, true, true]) hT.sz hT.df hT.fr rfl (by kernel_rfl)
            have hF := hT.f (hL 12 (by decide))
            have hS := hT.s (hL 13 (by decide))
            have hC := hT.c (hL 8 (by decide))
            have kW := hT.kp
            have eF := hF.1
            have eS := hS.1
            obtain ⟨gF0, csF, -, bF, sF⟩ := hF.2
            obtain ⟨gS0, csS, -, bS, sS⟩ := hS.2
            have sF := sF (hL 14 (by decide))
            have sS := sS (hL 15 (by decide))
            subst sF sS
            change aq.tmps.getD 13 undef = _ at eF
            change aq.tmps.getD 14 undef = _ at eS
            have hR := hC.2
            clear hF hS hC hT hL
            simp only [mix, eF, eS] at em
            clear eF eS
            generalize aq.tmps.getD 147 undef = q147 at em
            generalize aq.tmps.getD 148 undef = q148 at em
            generalize aq.tmps.getD 149 undef = q149 at em
            generalize aq.tmps.getD 150 undef = q150 at em
            generalize aq.tmps.getD 151 undef = q151 at em
            generalize aq.tmps.getD 152 undef = q152 at em
            generalize aq.tmps.getD 153 undef = q153 at em
            generalize aq.tmps.getD 154 undef = q154 at em
            generalize aq.tmps.getD 155 undef = q155 at em
            generalize aq.tmps.getD 146 undef = q146 at em
            generalize aq.tmps.getD 156 undef = q156 at em
            generalize aq.tmps.getD 157 undef = q157 at em
            subst em
            simp only [Exit.then]
            go_wp2_with fail
            go_meet
            obtain ⟨a1, c1, a6, c6, rfl, rfl, hs9, hb9⟩ := hR
            exact ⟨a1, c1, a6, c6, gF, rfl, gS, rfl, gF0, gS0, hid (by rw [← HUL.out]; exact bF), hid (by rw [← N_sn.out]; exact bS), hid (by rw [← HUL.out]; exact hs9.mono (fun b _ h => h.1)), hid (by rw [← N_sn.out]; exact hb9.mono (fun b _ h => h.1)), hid kW⟩
        case rest =>
        obtain ⟨a1, c1, a6, c6, b_U, rfl, b_S, rfl, hb_U, hb_S, B_U, B_S, HSU, HBD, hk⟩ := hcut
        replace hk := hk.out
        generalize wc = W50 at *
        clear B_F
        have HWq : Hd (WR (fun b => w.heap.size ≤ b ∧ b ≠ b_U) (fun _ => True) W49 p ⟨⟨bs, nx, ⟨k5, i5⟩⟩, ⟨nx, fs, true, ⟨k5, i5⟩⟩, FSq, RP, GT⟩ sa5 sc5 aa5 ac5 fa5 fc5 ra5 rc5 ga5 gc5) := hid (HW.out.mono (fun b hb h => ⟨h.1, by omega⟩) (fun _ _ _ => trivial))
        clear HW
        have HW := HWq
        clear HWq
        have HBP' : Hd (Blk W50 p #[(.slice sa5 sn sc5), (.int .i64 nx), (.int .u64 (k5 : Int)), (.int .i64 i5), (.int .i64 nx), (.slice aa5 fn ac5), (.bool true), (.int .u64 (k5 : Int)), (.int .i64 i5), (.slice fa5 f2n fc5), (.slice ra5 rpn rc5), (.slice ga5 gn gc5)] 60) := hid (blk_keep HBP.out hk (fun h => h))
        have HW' : Hd (WR (fun b => w.heap.size ≤ b ∧ b ≠ b_U) (fun _ => True) W50 p ⟨⟨bs, nx, ⟨k5, i5⟩⟩, ⟨nx, fs, true, ⟨k5, i5⟩⟩, FSq, RP, GT⟩ sa5 sc5 aa5 ac5 fa5 fc5 ra5 rc5 ga5 gc5) := hid (HW.out.keep hk (fun _ _ _ h => h))
        clear HBP HW
        have HBP := HBP'
        clear HBP'
        have HW := HW'
        clear HW'
        have HK' : Hd (Keeps (fun _ => False) w W50) := hid (HK.out.trans hk)
        clear HK
        have HK := HK'
        clear HK'
        have z_W50 := hk.size
        clear hk
        clear HUN HAR3 hs3
        have zp := blk_lt HBP.out
        have ltU := blk_lt B_U.out
        have ltS := blk_lt B_S.out
        have neUP : b_U ≠ p := by omega
        have neSP : b_S ≠ p := by omega
        have o_HBP_0 : W50.cell? ⟨p, 0, none⟩ = some ((.slice sa5 sn sc5)) := blk_cell HBP.out 0
        have o_HBP_1 : W50.cell? ⟨p, 1, none⟩ = some ((.int .i64 nx)) := blk_cell HBP.out 1
        have o_HBP_2 : W50.cell? ⟨p, 2, none⟩ = some ((.int .u64 (k5 : Int))) := blk_cell HBP.out 2
        have o_HBP_3 : W50.cell? ⟨p, 3, none⟩ = some ((.int .i64 i5)) := blk_cell HBP.out 3
        have f_HBP_0 : W50.frozen? ⟨p, 0, none⟩ = false := blk_free HBP.out 0
        have f_HBP_1 : W50.frozen? ⟨p, 1, none⟩ = false := blk_free HBP.out 1
        have f_HBP_2 : W50.frozen? ⟨p, 2, none⟩ = false := blk_free HBP.out 2
        have f_HBP_3 : W50.frozen? ⟨p, 3, none⟩ = false := blk_free HBP.out 3
        have o_B_S_0 : W50.cell? ⟨b_S, 0, none⟩ = some ((.slice a6 sn c6)) := blk_cell B_S.out 0
        have o_B_S_1 : W50.cell? ⟨b_S, 1, none⟩ = some ((.int .i64 nx)) := blk_cell B_S.out 1
        have o_B_S_2 : W50.cell? ⟨b_S, 2, none⟩ = some ((.int .u64 (k6 : Int))) := blk_cell B_S.out 2
        have o_B_S_3 : W50.cell? ⟨b_S, 3, none⟩ = some ((.int .i64 i6)) := blk_cell B_S.out 3
        go_upto_region 20 with fail
        clear o_HBP_0 o_HBP_1 o_HBP_2 o_HBP_3 f_HBP_0 f_HBP_1 f_HBP_2 f_HBP_3 o_B_S_0 o_B_S_1 o_B_S_2 o_B_S_3
        generalize hW : World.setCell (World.setCell (World.setCell (World.setCell W50 _ _) _ _) _ _) _ _ = W51
        have k3 : Keeps (fun b => b = p) W50 W51 := by rw [← hW]; exact keep4' _ _ _ _ _ _ _ _ _ _
        have HBP9 : Hd (Blk W51 p #[(.slice a6 sn c6), (.int .i64 nx), (.int .u64 (k6 : Int)), (.int .i64 i6), (.int .i64 nx), (.slice aa5 fn ac5), (.bool true), (.int .u64 (k5 : Int)), (.int .i64 i5), (.slice fa5 f2n fc5), (.slice ra5 rpn rc5), (.slice ga5 gn gc5)] 60) := hid (by rw [← hW]; exact blk_set (blk_set (blk_set (blk_set HBP.out 0 _) 1 _) 2 _) 3 _)
        have HW9 : Hd (WR (fun b => w.heap.size ≤ b ∧ b ≠ b_U) (fun _ => True) W51 p ⟨⟨bs, nx, ⟨k6, i6⟩⟩, ⟨nx, fs, true, ⟨k5, i5⟩⟩, FSq, RP, GT⟩ a6 c6 aa5 ac5 fa5 fc5 ra5 rc5 ga5 gc5) := hid ((HW.out.upS k3 (s := ⟨bs, nx, ⟨k6, i6⟩⟩) (sa2 := a6) (sc2 := c6) (by simp only [N_sn.out, N_fn.out, N_f2n.out, N_rpn.out, N_gn.out]; exact HBP9.out) (by simp only [N_sn.out, N_fn.out, N_f2n.out, N_rpn.out, N_gn.out]; exact (HBD.out.keep k3 (fun b _ h e => by omega)).mono (fun b _ h => ⟨trivial, fun e => by have := HML.out b e; omega⟩))))
        skip
        have B_U9 : Hd (Blk W51 b_U #[(.int .i64 U.q), (.int .i64 U.k), (.bool U.u), (.slice a1 0 c1), (.int .u64 (U.t : Int))] 25) := hid (blk_keep B_U.out k3 neUP)
        have HSU9 : Hd (Sl (fun b => W49.heap.size ≤ b) W51 (.slice a1 0 c1) (u8s U.b)) := hid (HSU.out.keep k3 (fun b _ h e => by omega))
        have HK9 : Hd (Keeps (fun _ => False) w W51) := hid (HK.out.trans' k3 (fun i hi h => by omega))
        have z_W51 := k3.size
        clear hW k3 HBP HW HK B_U B_S HSU HBD HML
        have HBP := HBP9; have HW := HW9; have HK := HK9; have B_U := B_U9; have HSU := HSU9
        clear HBP9 HW9 HK9 B_U9 HSU9
        have HFU : Hd (unlF MM far = U) := hid (by unfold unlF; rw [roundS_l HI.out, HMM.out]; simp only [HL4.out, HL5.out]; rw [HA3.out, HU.out])
        have HR3 : Hd (recvM ⟨nx, fs, true, ⟨k5, i5⟩⟩ U = (⟨nx, [], false, ⟨k6, i6⟩⟩, [], 0)) := hid (by have h := HFC.out; rw [HFU.out, HMM.out] at h; simp only [HL4.out, HL5.out, HL6.out] at h; exact h)
        have HAV3 : Hd (∀ X, Keeps (fun _ => False) W51 X → Calls Tryd.prog 51 #[.pointer (some ⟨p, 0, none⟩), .agg #[(.int .i64 U.q), (.int .i64 U.k), (.bool U.u), (.slice a1 0 c1), (.int .u64 (U.t : Int))]] X fun e w' => e = .returned (.int .i64 0) ∧ WRx (fun b => w.heap.size ≤ b ∧ b ≠ b_U) (fun _ => True) w' p ⟨⟨bs, nx, ⟨k6, i6⟩⟩, ⟨nx, [], false, ⟨k6, i6⟩⟩, FSq, RP, GT⟩ ∧ Keeps (fun b => w.heap.size ≤ b ∧ b ≠ b_U) X w') := hid (fun X hx => by
          have h := arrive_any ⟨⟨bs, nx, ⟨k6, i6⟩⟩, ⟨nx, fs, true, ⟨k5, i5⟩⟩, FSq, RP, GT⟩ p U a1 c1 (fun b => w.heap.size ≤ b ∧ b ≠ b_U) (fun _ => True) (fun b => W49.heap.size ≤ b) X ⟨_, _, _, _, _, _, _, _, _, _, HW.out.keep hx (fun _ _ _ h => h)⟩ (fun b hb => by have hb2 := Nat.le_trans hx.size hb; exact ⟨⟨by omega, by omega⟩, trivial⟩) (by rw [HUL.out]; exact HSU.out.keep hx (fun _ _ _ h => h)) _ (HRK.out k5 i5 HLK5.out (by omega)) (by decide) HUK.out HGT.out
          unfold arriveM at h; rw [HR3.out, HUL.out] at h; simp only [List.append_nil] at h; exact h)
        go_upto_region 20 with fail
        go_cut [190] from 162 to 190 (fun u9 wx => u9 = .bool false ∧ Hd (WRx (fun b => w.heap.size ≤ b ∧ b ≠ b_U) (fun _ => True) wx p ⟨⟨bs, nx, ⟨k6, i6⟩⟩, ⟨nx, [], false, ⟨k6, i6⟩⟩, FSq, RP, GT⟩) ∧ Hd (Blk wx b_U #[(.int .i64 U.q), (.int .i64 U.k), (.bool U.u), (.slice a1 0 c1), (.int .u64 (U.t : Int))] 25) ∧ Hd (Keeps (fun b => w.heap.size ≤ b ∧ b ≠ b_U) W51 wx))
        case first =>
          have HSS : Hd (∀ w', Keeps (fun b => w.heap.size ≤ b ∧ b ≠ b_U) W51 w' → (w'.cell? ⟨b_U, 0, none⟩ = some ((.int .i64 U.q)) ∧ w'.cell? ⟨b_U, 1, none⟩ = some ((.int .i64 U.k)) ∧ w'.cell? ⟨b_U, 2, none⟩ = some ((.bool U.u)) ∧ w'.cell? ⟨b_U, 3, none⟩ = some ((.slice a1 0 c1)) ∧ w'.cell? ⟨b_U, 4, none⟩ = some ((.int .u64 (U.t : Int))))) := hid (fun w' hk => ⟨blk_cell (blk_keep B_U.out hk (fun h => h.2 rfl)) 0, blk_cell (blk_keep B_U.out hk (fun h => h.2 rfl)) 1, blk_cell (blk_keep B_U.out hk (fun h => h.2 rfl)) 2, blk_cell (blk_keep B_U.out hk (fun h => h.2 rfl)) 3, blk_cell (blk_keep B_U.out hk (fun h => h.2 rfl)) 4⟩)
          have KC : Hd (Keeps (fun b => w.heap.size ≤ b ∧ b ≠ b_U) W51 W51) := hid (Keeps.refl _ _)
          have of0 := blk_cell B_U.out 0
          have of1 := blk_cell B_U.out 1
          have of2 := blk_cell B_U.out 2
          have of3 := blk_cell B_U.out 3
          have of4 := blk_cell B_U.out 4
          go_wp2_with fail
          ((refine (HAV3.out _ (by repeat (first | (with_reducible exact Keeps.refl _ _) | (with_reducible apply Keeps.drewN) | (with_reducible apply Keeps.drew)))).mono ?_); rintro e y0 ⟨rfl, ⟨sa7, sc7, aa7, ac7, fa7, fc7, ra7, rc7, ga7, gc7, hw3⟩, hk⟩; have HW3 := hid hw3; have hb3 := hw3.blk; (simp only [N_sn.out, N_fn.out, N_f2n.out, N_rpn.out, N_gn.out, List.length_nil] at hb3); have HB3 : Hd (Blk y0 p #[(.slice sa7 sn sc7), (.int .i64 nx), (.int .u64 (k6 : Int)), (.int .i64 i6), (.int .i64 nx), (.slice aa7 0 ac7), (.bool false), (.int .u64 (k6 : Int)), (.int .i64 i6), (.slice fa7 f2n fc7), (.slice ra7 rpn rc7), (.slice ga7 gn gc7)] 60) := hid hb3; have KC2 : Hd (Keeps (fun b => w.heap.size ≤ b ∧ b ≠ b_U) W51 y0) := hid (Keeps.trans (S := (fun b => w.heap.size ≤ b ∧ b ≠ b_U)) (by repeat (first | (with_reducible exact Keeps.refl _ _) | (with_reducible apply Keeps.drewN) | (with_reducible apply Keeps.drew))) hk); replace KC := KC2; clear KC2 hw3 hb3 hk; have K9 : Hd (Keeps (fun _ => False) y0 y0) := hid (Keeps.refl _ _); have o4_y0 : y0.cell? ⟨p, 4, none⟩ = some (.int .i64 nx) := blk_cell (blk_keep HB3.out K9.out (fun h => h)) 4; have o5_y0 : y0.cell? ⟨p, 5, none⟩ = some (.slice aa7 0 ac7) := blk_cell (blk_keep HB3.out K9.out (fun h => h)) 5; have o6_y0 : y0.cell? ⟨p, 6, none⟩ = some (.bool false) := blk_cell (blk_keep HB3.out K9.out (fun h => h)) 6)
          go_wp2_with fail
          go_meet
          exact ⟨rfl, hid ⟨_, _, _, _, _, _, _, _, _, _, HW3.out.keep (by repeat (first | (with_reducible exact K9.out) | (with_reducible exact Keeps.refl _ _) | (with_reducible apply Keeps.drewN) | (with_reducible apply Keeps.drew))) (fun _ _ _ h => h)⟩, hid (blk_keep B_U.out (show Keeps (fun b => w.heap.size ≤ b ∧ b ≠ b_U) W51 _ by repeat (first | (with_reducible exact KC.out) | (with_reducible exact Keeps.refl _ _) | (with_reducible apply Keeps.drewN) | (with_reducible apply Keeps.drew))) (fun h => h.2 rfl)), hid (by repeat (first | (with_reducible exact KC.out) | (with_reducible exact Keeps.refl _ _) | (with_reducible apply Keeps.drewN) | (with_reducible apply Keeps.drew)))⟩
        case rest =>
        obtain ⟨rfl, HW9, B9, HK9⟩ := hcut
        generalize wc = W52 at *
        have z_W52 := HK9.out.size
        have HKn : Hd (Keeps (fun _ => False) w W52) := hid (HK.out.trans' HK9.out (fun i hi h => by have := h.1; omega))
        clear HK HW HBP B_U HK9
        have HK := HKn; have B_U := B9
        clear HKn B9
        obtain ⟨sa7, sc7, aa7, ac7, fa7, fc7, ra7, rc7, ga7, gc7, hw9⟩ := HW9.out
        have HW := hid hw9
        clear HW9
        have hb9 := hw9.blk
        simp only [N_sn.out, N_fn.out, N_f2n.out, N_rpn.out, N_gn.out, List.length_nil] at hb9
        have HBP : Hd (Blk W52 p #[(.slice sa7 sn sc7), (.int .i64 nx), (.int .u64 (k6 : Int)), (.int .i64 i6), (.int .i64 nx), (.slice aa7 0 ac7), (.bool false), (.int .u64 (k6 : Int)), (.int .i64 i6), (.slice fa7 f2n fc7), (.slice ra7 rpn rc7), (.slice ga7 gn gc7)] 60) := hid hb9
        have HML := hid (WR.lt hw9)
        clear hw9 hb9
        clear HAV3
        have HG7 : Hd (WInv key ⟨⟨bs, nx, ⟨k6, i6⟩⟩, ⟨nx, [], false, ⟨k6, i6⟩⟩, FSq, RP, GT⟩ 200 ∧ WOk ⟨⟨bs, nx, ⟨k6, i6⟩⟩, ⟨nx, [], false, ⟨k6, i6⟩⟩, FSq, RP, GT⟩ 200) := hid ⟨by have h := HUW.out; rw [HMM.out] at h; unfold unlW at h; simp only [HL4.out, HL5.out, HL6.out] at h; exact winv_mono h (by omega), ⟨⟨hnx0, by show nx ≤ _; omega, fun x hx => (by cases hx), List.Pairwise.nil, HLK6.out.k, HLK6.out.i0, by show i6 ≤ _; omega⟩, HO.out.f, HO.out.b, HLK6.out.k⟩⟩
        have HMB : Hd (∀ x ∈ bs, ∀ c ∈ x, c < 256) := hid HO.out.b
        have HGL : Hd (bs.length ≤ 1000) := hid (by have := N_sn.out; omega)
        have HCP : Hd (Calls Tryd.prog 34 #[.pointer (some ⟨p, 0, none⟩)] W52.drew fun e w' => e = .returned (.bool true) ∧ (∃ m2 : WM, m2.s.bs = bs ∧ m2.gt = bs ∧ (∀ x ∈ m2.s.bs, ∀ c ∈ x, c < 256) ∧ WRx (fun b => w.heap.size ≤ b ∧ b ≠ b_U) (fun _ => True) w' p m2) ∧ Keeps (fun b => w.heap.size ≤ b ∧ b ≠ b_U) W52.drew w') := hid (complete_any key ⟨⟨bs, nx, ⟨k6, i6⟩⟩, ⟨nx, [], false, ⟨k6, i6⟩⟩, FSq, RP, GT⟩ 200 p (fun b => w.heap.size ≤ b ∧ b ≠ b_U) (fun _ => True) W52.drew ⟨_, _, _, _, _, _, _, _, _, _, HW.out.keep ((Keeps.refl (fun _ => False) W52).drew) (fun _ _ _ h => h)⟩ (fun b hb => by have hb2 : W52.heap.size ≤ b := hb; exact ⟨⟨by omega, by omega⟩, trivial⟩) HG7.out.1 HG7.out.2 (by omega))
        go_upto_region 22 with fail
        rw [lUj_eq, lUk_eq]
        go_region_held (fun w' => True) (trivial)
          (first
          | (go_at_call 34; (refine HCP.out.mono ?_); rintro e y1 ⟨rfl, ⟨m2, e1, e2, hb2, sa, sc, aa, ac, fa, fc, ra, rc, ga, gc, hw2⟩, hk⟩; have HK1 : Hd (Keeps (fun b => w.heap.size ≤ b) w y1) := hid ((HK.out.mono (fun _ _ h => h.elim)).trans ((Keeps.refl (fun b => w.heap.size ≤ b) W52).drew.trans (hk.mono (fun _ _ h => h.1)))); have o11 : y1.cell? ⟨p, 11, none⟩ = some (.slice ga m2.gt.length gc) := blk_cell hw2.blk 11; have o0 : y1.cell? ⟨p, 0, none⟩ = some (.slice sa m2.s.bs.length sc) := blk_cell hw2.blk 0; have HSB := hid hw2.sb; have HGB := hid (bdo_bds2 hw2.gt); have HE1 := hid e1; have HE2 := hid e2; have K9 : Hd (Keeps (fun _ => False) y1 y1) := hid (Keeps.refl _ _); clear hw2 hk e1 e2 hb2)
          | (go_at_call 27; (refine (SameBodies_any _ _ _ _ m2.gt m2.s.bs _ HGB.out HSB.out (by rw [HE2.out]; exact HMB.out) (by rw [HE1.out]; exact HMB.out) (by rw [HE2.out]; have := HGL.out; omega)).mono ?_); (rw [decide_eq_true (show m2.gt = m2.s.bs from HE2.out.trans HE1.out.symm)]); rintro e y2 ⟨rfl, hk⟩; have HK2 := hid (HK1.out.trans' hk (fun _ _ h => h.elim)); clear hk)
          | (go_at_call 18; (refine (lives_any _ (HN.out.keep HK2.out (fun b h1 h2 h3 => by omega))).mono ?_); rintro e y3 ⟨rfl, hk⟩; have HK3 := hid (HK2.out.trans' hk (fun _ _ h => h.elim)); clear hk))
        all_goals
          go_wp2
          go_ret
          exact ⟨rfl, HK3.out.mono (fun b h1 h2 => by omega)⟩
end Go.Proofs.YthoikljmokkchaaDoor
