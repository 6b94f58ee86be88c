/- Frame: a round. -/
import Derived.Test.YthoikljmokkchaaDoorFrWD
import Derived.Test.YthoikljmokkchaaDoorFrPH
import Derived.Test.YthoikljmokkchaaDoorFrRun
import Derived.Deep.DrawnRows
namespace Go.Proofs.YthoikljmokkchaaDoor
open Go.RowKit
attribute [local go_sem ↓] Go.wp_at_zero Go.wp_at_succ
def ldT : Op := Op.load 57 (.tmp 17)
theorem ldT_eq : Op.load 57 (.tmp 17) = ldT := rfl
attribute [local go_sem] ldT
theorem havN_lt16 {nx : Int} : ∀ {l : List Fr} {h : Nat}, h < 65536 → (∀ x ∈ l, x.q ≤ nx + 15) → havN nx h l < 65536 := by
  intro l
  induction l with
  | nil => intro h hh _; exact hh
  | cons x l ih =>
    intro h hh hx
    refine ih (h := h ||| 2 ^ bitAt nx x.q) ?_ (fun y hy => hx y (List.mem_cons_of_mem _ hy))
    have hp : 2 ^ bitAt nx x.q < 65536 := by
      have h1 : bitAt nx x.q ≤ 14 := by have := hx x List.mem_cons_self; unfold bitAt; omega
      exact Nat.lt_of_le_of_lt (Nat.pow_le_pow_right (by omega) h1) (by decide)
    exact Nat.or_lt_two_pow (n := 16) (by omega) (by omega)
theorem havI_b {nx : Int} {l : List Fr} (hx : ∀ x ∈ l, x.q ≤ nx + 15) : 0 ≤ havI nx l ∧ havI nx l ≤ 1000000000000 := by
  rw [havI_eq (fun x h => by have := hx x h; omega)]
  have := havN_lt16 (nx := nx) (l := l) (h := 0) (by omega) hx
  omega
theorem own_after {X w' : World} {n k c : Nat} {a : Option Addr} {e : TypeId} {xs : List Value} (h : Own (fun b => X.heap.size ≤ b) w' e 1 (.slice a k c) k xs) (hn : n ≤ X.heap.size) : ∀ Y, Keeps (fun _ => False) w' Y → Own (fun b => n ≤ b) Y e 1 (.slice a k c) k xs := fun Y hk =>
  (h.keep hk (fun _ _ _ h => h)).mono (fun b _ h => by omega)
theorem miss_eq {m : WM} {n : Nat} {key : Nat} (h : WInv key m n) : (if m.r.lk then [] else misI m.r.nx (havI m.r.nx m.r.fs) (max (ackN m.s.a m.r.nx m.s.bs.length) m.r.nx) (min (max (ackN m.s.a m.r.nx m.s.bs.length) m.r.nx + 16) (m.s.bs.length : Int) - max (ackN m.s.a m.r.nx m.s.bs.length) m.r.nx).toNat) = roundL m := rfl
set_option maxRecDepth 100000 in
set_option maxHeartbeats 8000000 in
theorem round_any (key : Nat) (m : WM) (n : Nat) (p : Nat) (K D : Nat → Prop) (w : World) (hw : WRx K D w p m) (hK : ∀ b, w.heap.size ≤ b → K b ∧ D b) (hi : WInv key m n) (ho : WOk m n) (hn : n ≤ 3800) :
    Calls Tryd.prog 74 #[.pointer (some ⟨p, 0, none⟩)] w fun e w' => e = .returned (.bool true) ∧ WRx K D w' p (roundM m) ∧ Keeps K w w' := by
  obtain ⟨sa, sc, aa, ac, fa, fc, ra, rc, ga, gc, hw⟩ := hw
  have HW := hid hw
  have HKF := hid hK
  have HML := hid (WR.lt hw)
  have HI := hid hi; have HO := hid ho
  have hpl := blk_lt hw.blk
  have hin := hi
  clear hw hi ho hK
  have hnx0 := hin.r.n0; have hnx1 := hin.r.n1; have ha0 := hin.a0; have ha1 := hin.a1; have hbn := hin.bn
  have hki0 := hin.r.kd.1; have hki1 := hin.r.ki; have hli := hin.li
  have hfsl : m.r.fs.length ≤ 15 := HO.out.r.len
  have hfq : Hd (∀ y ∈ m.r.fs, m.r.nx < y.q ∧ y.q ≤ m.r.nx + 15) := hid (fun y hy => by have h := hin.r.fs y hy; exact ⟨h.1, h.2.1⟩)
  have HLOK : Hd (m.s.l.ok) := hid (HO.out.lok hin (by omega))
  have hcf : confL m.s.l m.r.l.i = m.s.l := conf_same hki1
  have hak : ackN m.s.a m.r.nx m.s.bs.length = m.r.nx := by unfold ackN; omega
  have HRS : Hd (roundS m = ⟨⟨m.s.bs, m.r.nx, m.s.l⟩, m.r, m.fs, m.rp, m.gt⟩) := hid (by
    unfold roundS confirmM stateM
    simp only [hcf, hak])
  obtain ⟨RL, hRL⟩ : ∃ R, roundL m = R := ⟨_, rfl⟩
  have HRL := hid hRL
  have hme := miss_eq hin
  rw [hRL, hak] at hme
  have HME := hid hme
  have hrl : RL.length ≤ 16 := by rw [← hRL]; exact roundL_len hin
  clear hRL hme
  obtain ⟨hv, hhv⟩ : ∃ h, havI m.r.nx m.r.fs = h := ⟨_, rfl⟩
  have HHV := hid hhv
  have hvb : 0 ≤ hv ∧ hv ≤ 1000000000000 := by rw [← hhv]; exact havI_b (fun y hy => (hfq.out y hy).2)
  clear hhv hin
  have HBP := hid HW.out.blk
  have HSB := hid HW.out.sb
  have HAH := hid HW.out.ah
  obtain ⟨mm, hmm⟩ : ∃ x, x = m := ⟨_, rfl⟩
  have HMM := hid hmm
  have HRA : Hd (∀ (i : Nat), i ≤ RL.length → RS key mm (roundAt mm i) (n + i) (RL.take i) ∧ WOk (roundAt mm i) (n + i)) := hid (fun i hi => by rw [← HRL.out] at hi ⊢; rw [HMM.out]; exact ⟨rs_at HI.out (by omega) i hi (by rw [HRL.out] at hi; omega), wok_roundAt HI.out HO.out (by omega) i hi (by rw [HRL.out] at hi; omega)⟩)
  have HRE : Hd (∀ (i : Nat) (q : Int), RL[i]? = some q → (0 ≤ q ∧ q < mm.s.bs.length) ∧ emitM (roundAt mm i).s q = (signF (roundAt mm i).s.l ⟨q, 0, false, (roundAt mm i).s.bs.getD q.toNat [], 0⟩, ⟨(roundAt mm i).s.bs, (roundAt mm i).s.a, nextL (roundAt mm i).s.l⟩, 0) ∧ roundAt mm (i + 1) = roundStep (roundAt mm i) q) := hid (fun i q hq => by rw [← HRL.out] at hq; rw [HMM.out]; exact ⟨rs_q HI.out hq, round_emit HI.out (by omega) hq⟩)
  have HEND : Hd (roundAt mm RL.length = roundM mm) := hid (by rw [← HRL.out, HMM.out]; exact roundAt_all m)
  have HST0 : Hd (roundAt mm 0 = roundS mm) := hid rfl
  have HFO : Hd (∀ (i : Nat) (q : Int), RL[i]? = some q → (signF (roundAt mm i).s.l ⟨q, 0, false, (roundAt mm i).s.bs.getD q.toNat [], 0⟩).ok) := hid (fun i q hq => by
    have hil := (List.getElem?_eq_some_iff.1 hq).1
    obtain ⟨g1, g2⟩ := HRA.out i (by omega)
    have := (HRE.out i q hq).1
    exact emit_ok g1.w g2 (by omega) this.1 (by rw [g1.bs]; exact this.2))
  rw [← hmm]
  rw [← hmm] at HRS
  clear hmm
  obtain ⟨⟨bs, a, ⟨k2, i2⟩⟩, ⟨nx, fs, lk, ⟨rk, ri⟩⟩, FSq, RP, GT⟩ := m
  simp only [] at *
  obtain ⟨sn, hsn⟩ : ∃ n, bs.length = n := ⟨_, rfl⟩
  have N_sn := hid hsn
  rw [hsn] at HBP HSB hbn hnx1
  clear hsn
  obtain ⟨fn, hfn⟩ : ∃ n, fs.length = n := ⟨_, rfl⟩
  have N_fn := hid hfn
  rw [hfn] at HBP HAH hfsl
  clear hfn
  obtain ⟨f2n, hf2n⟩ : ∃ n, FSq.length = n := ⟨_, rfl⟩
  have N_f2n := hid hf2n
  rw [hf2n] at HBP
  clear hf2n
  obtain ⟨rpn, hrpn⟩ : ∃ n, RP.length = n := ⟨_, rfl⟩
  have N_rpn := hid hrpn
  rw [hrpn] at HBP
  clear hrpn
  obtain ⟨gn, hgn⟩ : ∃ n, GT.length = n := ⟨_, rfl⟩
  have N_gn := hid hgn
  rw [hgn] at HBP
  clear hgn
  go_enter Tryd.func74, Tryd.ntmps74
  have HST : Hd (Calls Tryd.prog 28 #[.agg #[.int .i64 nx, .slice aa fn ac, .bool lk, .int .u64 (rk : Int), .int .i64 ri]] w fun e w' => e = .returned (.agg #[.int .i64 nx, .int .i64 hv, .int .i64 ri, .bool lk]) ∧ Keeps (fun _ => False) w w') := hid (by have h := State_any fs aa ac nx lk ⟨rk, ri⟩ _ w (by rw [N_fn.out]; exact HAH.out) (by rw [N_fn.out]; omega) hnx0 (by omega) (fun y hy => by have h := hfq.out y hy; exact ⟨h.1, by have := h.2; omega⟩); rw [HHV.out, N_fn.out] at h; exact h)
  have o_HBP_4 : w.cell? ⟨p, 4, none⟩ = some ((.int .i64 nx)) := blk_cell HBP.out 4
  have o_HBP_5 : w.cell? ⟨p, 5, none⟩ = some ((.slice aa fn ac)) := blk_cell HBP.out 5
  have o_HBP_6 : w.cell? ⟨p, 6, none⟩ = some ((.bool lk)) := blk_cell HBP.out 6
  have o_HBP_7 : w.cell? ⟨p, 7, none⟩ = some ((.int .u64 (rk : Int))) := blk_cell HBP.out 7
  have o_HBP_8 : w.cell? ⟨p, 8, none⟩ = some ((.int .i64 ri)) := blk_cell HBP.out 8
  go_wp2_with fail
  refine (HST.out).mono ?_
  rintro e w1 ⟨rfl, hk⟩
  clear HST
  clear o_HBP_4 o_HBP_5 o_HBP_6 o_HBP_7 o_HBP_8
  have HBP' : Hd (Blk w1 p #[(.slice sa sn sc), (.int .i64 a), (.int .u64 (k2 : Int)), (.int .i64 i2), (.int .i64 nx), (.slice aa fn ac), (.bool lk), (.int .u64 (rk : Int)), (.int .i64 ri), (.slice fa f2n fc), (.slice ra rpn rc), (.slice ga gn gc)] 60) := hid (blk_keep HBP.out hk (fun h => h))
  have HW' : Hd (WR K D w1 p ⟨⟨bs, a, ⟨k2, i2⟩⟩, ⟨nx, fs, lk, ⟨rk, ri⟩⟩, FSq, RP, GT⟩ sa sc aa ac fa fc ra rc ga gc) := hid (HW.out.keep hk (fun _ _ _ h => h))
  have HSB' : Hd (Bds (fun b => D b ∧ ¬ Mine p fa ra ga b) w1 (.slice sa sn sc) bs) := hid (HSB.out.keep hk (fun _ _ _ h => h))
  clear HBP HW HSB
  have HBP := HBP'
  clear HBP'
  have HW := HW'
  clear HW'
  have HSB := HSB'
  clear HSB'
  have HK : Hd (Keeps (fun _ => False) w w1) := hid hk
  have z_w1 := hk.size
  clear hk
  go_upto_region 2 with fail
  generalize hW : World.alloc w1 _ = W1
  have KS : Hd (Keeps (fun _ => False) w1 W1) := hid (by rw [← hW]; exact (Keeps.alloc (Keeps.refl (fun _ => False) w1) _))
  have HBP' : Hd (Blk W1 p #[(.slice sa sn sc), (.int .i64 a), (.int .u64 (k2 : Int)), (.int .i64 i2), (.int .i64 nx), (.slice aa fn ac), (.bool lk), (.int .u64 (rk : Int)), (.int .i64 ri), (.slice fa f2n fc), (.slice ra rpn rc), (.slice ga gn gc)] 60) := hid (by rw [← hW]; exact (blk_alloc HBP.out _))
  have HW' : Hd (WR K D W1 p ⟨⟨bs, a, ⟨k2, i2⟩⟩, ⟨nx, fs, lk, ⟨rk, ri⟩⟩, FSq, RP, GT⟩ sa sc aa ac fa fc ra rc ga gc) := hid (HW.out.keep KS.out (fun _ _ _ h => h))
  have HSB' : Hd (Bds (fun b => D b ∧ ¬ Mine p fa ra ga b) W1 (.slice sa sn sc) bs) := hid (HSB.out.keep KS.out (fun _ _ _ h => h))
  have BT : Hd (Blk W1 w1.heap.size #[(.int .i64 nx), (.int .i64 hv), (.int .i64 ri), (.bool lk)] 50) := hid (by rw [← hW]; exact (blk_new _ _ _))
  clear HBP HW HSB
  have HBP := HBP'
  clear HBP'
  have HW := HW'
  clear HW'
  have HSB := HSB'
  clear HSB'
  have HK' : Hd (Keeps (fun _ => False) w W1) := hid (HK.out.trans KS.out)
  clear HK
  have HK := HK'
  clear HK'
  have z_W1 : w1.heap.size + 1 ≤ W1.heap.size := by rw [← hW]; simp
  clear hW KS
  generalize hb_BT : w1.heap.size = b_T at *
  have zT := blk_lt BT.out
  have neT : b_T ≠ p := by omega
  have HCF : Hd (∀ X, Keeps (fun _ => False) W1 X → Calls Tryd.prog 44 #[.agg #[.slice sa sn sc, .int .i64 a, .int .u64 (k2 : Int), .int .i64 i2], .agg #[.int .i64 nx, .int .i64 hv, .int .i64 ri, .bool lk]] X fun e w' => ∃ a2 c2, e = .returned (.agg #[.slice a2 sn c2, .int .i64 nx, .int .u64 (k2 : Int), .int .i64 i2]) ∧ Bds (fun b => X.heap.size ≤ b) w' (.slice a2 sn c2) bs ∧ Keeps (fun _ => False) X w') := hid (fun X hx => by have h := Confirm_any bs sa sc a ⟨k2, i2⟩ nx hv ri lk _ X (by rw [N_sn.out]; exact HSB.out.keep hx (fun _ _ _ h => h)) (by rw [N_sn.out]; omega) HI.out.bl HLOK.out (by omega); unfold ConfR at h; rw [hcf, N_sn.out, (by rw [← N_sn.out]; exact hak : ackN a nx sn = nx)] at h; exact h)
  go_cut [] from 14 to 22 (fun wx => ∃ (a2 : Option Addr) (c2 : Nat), Hd (Blk wx p #[(.slice a2 sn c2), (.int .i64 nx), (.int .u64 (k2 : Int)), (.int .i64 i2), (.int .i64 nx), (.slice aa fn ac), (.bool lk), (.int .u64 (rk : Int)), (.int .i64 ri), (.slice fa f2n fc), (.slice ra rpn rc), (.slice ga gn gc)] 60) ∧ Hd (Bds (fun b => W1.heap.size ≤ b) wx (.slice a2 sn c2) bs) ∧ Hd (Keeps (fun b => b = p) W1 wx))
  case first =>
    have KC : Hd (Keeps (fun _ => False) W1 W1) := hid (Keeps.refl _ _)
    have HSS : Hd (∀ w', Keeps (fun b => b = p) W1 w' → (w'.cell? ⟨b_T, 0, none⟩ = some ((.int .i64 nx)) ∧ w'.cell? ⟨b_T, 1, none⟩ = some ((.int .i64 hv)) ∧ w'.cell? ⟨b_T, 2, none⟩ = some ((.int .i64 ri)) ∧ w'.cell? ⟨b_T, 3, none⟩ = some ((.bool lk)))) := hid (fun w' hk => ⟨blk_cell (blk_keep BT.out hk neT) 0, blk_cell (blk_keep BT.out hk neT) 1, blk_cell (blk_keep BT.out hk neT) 2, blk_cell (blk_keep BT.out hk neT) 3⟩)
    have o_HBP_0 : W1.cell? ⟨p, 0, none⟩ = some ((.slice sa sn sc)) := blk_cell HBP.out 0
    have o_HBP_1 : W1.cell? ⟨p, 1, none⟩ = some ((.int .i64 a)) := blk_cell HBP.out 1
    have o_HBP_2 : W1.cell? ⟨p, 2, none⟩ = some ((.int .u64 (k2 : Int))) := blk_cell HBP.out 2
    have o_HBP_3 : W1.cell? ⟨p, 3, none⟩ = some ((.int .i64 i2)) := blk_cell HBP.out 3
    rw [ldT_eq]
    go_region_held (fun w' => w'.cell? ⟨b_T, 0, none⟩ = some ((.int .i64 nx)) ∧ w'.cell? ⟨b_T, 1, none⟩ = some ((.int .i64 hv)) ∧ w'.cell? ⟨b_T, 2, none⟩ = some ((.int .i64 ri)) ∧ w'.cell? ⟨b_T, 3, none⟩ = some ((.bool lk))) ((refine HSS.out _ ?_; (repeat (first | (with_reducible exact KC.out.mono (fun _ _ h => h.elim)) | (with_reducible exact Keeps.refl _ _) | (with_reducible apply Keeps.drewN) | (with_reducible apply Keeps.drew) | (with_reducible apply Keeps.alloc) | (with_reducible refine Keeps.setCell (S := fun b => b = p) ?_ (.inl rfl) _))); done))
      (first
      | (go_at_call 44; (refine (HCF.out _ (by repeat (first | (with_reducible exact KC.out) | (with_reducible exact Keeps.refl _ _) | (with_reducible apply Keeps.drewN) | (with_reducible apply Keeps.drew) | (with_reducible apply Keeps.alloc)))).mono ?_); rintro e wy1 ⟨a2, c2, rfl, hbd, hk⟩; have KC2 : Hd (Keeps (fun _ => False) W1 wy1) := hid (Keeps.trans (S := fun _ => False) (by repeat (first | (with_reducible exact KC.out) | (with_reducible exact Keeps.refl _ _) | (with_reducible apply Keeps.drewN) | (with_reducible apply Keeps.drew) | (with_reducible apply Keeps.alloc))) hk); have HBD := hid ((bds_after hbd (n := W1.heap.size) (by first | exact Nat.le_refl _ | (simp; done) | (simp; omega) | fail)) _ (Keeps.refl _ _)); clear hbd; replace KC := KC2; clear KC2; replace hk := hid hk; have fz0 : wy1.frozen? ⟨p, 0, none⟩ = false := blk_free (blk_keep HBP.out KC.out (fun h => h)) 0; have cz0 : wy1.cell? ⟨p, 0, none⟩ = some (.slice sa sn sc) := blk_cell (blk_keep HBP.out KC.out (fun h => h)) 0; have fz1 : wy1.frozen? ⟨p, 1, none⟩ = false := blk_free (blk_keep HBP.out KC.out (fun h => h)) 1; have cz1 : wy1.cell? ⟨p, 1, none⟩ = some (.int .i64 a) := blk_cell (blk_keep HBP.out KC.out (fun h => h)) 1; have fz2 : wy1.frozen? ⟨p, 2, none⟩ = false := blk_free (blk_keep HBP.out KC.out (fun h => h)) 2; have cz2 : wy1.cell? ⟨p, 2, none⟩ = some (.int .u64 (k2 : Int)) := blk_cell (blk_keep HBP.out KC.out (fun h => h)) 2; have fz3 : wy1.frozen? ⟨p, 3, none⟩ = false := blk_free (blk_keep HBP.out KC.out (fun h => h)) 3; have cz3 : wy1.cell? ⟨p, 3, none⟩ = some (.int .i64 i2) := blk_cell (blk_keep HBP.out KC.out (fun h => h)) 3))
    all_goals
      go_wp2_with fail
      go_meet
      have k9 := keep4' wy1 p 0 1 2 3 (.slice a2 sn c2) (.int .i64 nx) (.int .u64 (k2 : Int)) (.int .i64 i2)
      exact ⟨a2, c2, hid (blk_set (blk_set (blk_set (blk_set (blk_keep HBP.out KC.out (fun h => h)) 0 _) 1 _) 2 _) 3 _), hid (HBD.out.keep k9 (fun b _ h1 h2 => by omega)), hid ((KC.out.mono (fun _ _ h => h.elim)).trans' k9 (fun _ _ h => h))⟩
  case rest =>
    obtain ⟨a2, c2, HB9, HD9, HK9⟩ := hcut
    generalize wc = W2 at *
    have HW9 : Hd (WR K D W2 p ⟨⟨bs, nx, ⟨k2, i2⟩⟩, ⟨nx, fs, lk, ⟨rk, ri⟩⟩, FSq, RP, GT⟩ a2 c2 aa ac fa fc ra rc ga gc) := hid (HW.out.upS HK9.out (s := ⟨bs, nx, ⟨k2, i2⟩⟩) (sa2 := a2) (sc2 := c2) (by simp only [N_sn.out, N_fn.out, N_f2n.out, N_rpn.out, N_gn.out]; exact HB9.out) (by simp only [N_sn.out]; exact HD9.out.mono (fun b _ h => ⟨(HKF.out b (by omega)).2, fun e => by have := HML.out b e; omega⟩)))
    have BT9 := hid (blk_keep BT.out HK9.out neT)
    have HKK : Hd (Keeps K w W2) := hid ((HK.out.mono (T := K) (fun _ _ h => h.elim)).trans' HK9.out (fun i hi h => by rw [h]; exact HW.out.k p (.inl rfl)))
    have z_W2 := HK9.out.size
    clear HK BT HBP HW HSB HAH HCF HD9 HK9
    have BT := BT9; have HBP := HB9; have HW := HW9
    clear BT9 HB9 HW9
    replace HW : Hd (WR K D W2 p (roundS mm) a2 c2 aa ac fa fc ra rc ga gc) := hid (by rw [HRS.out]; simp only [HMM.out]; exact HW.out)
    have HW5 := HW
    have HMI : Hd (∀ X, Calls Tryd.prog 48 #[.agg #[.slice a2 sn c2, .int .i64 nx, .int .u64 (k2 : Int), .int .i64 i2], .agg #[.int .i64 nx, .int .i64 hv, .int .i64 ri, .bool lk]] X fun e w' => ∃ am mn cm, e = .returned (.slice am mn cm) ∧ Own (fun b => X.heap.size ≤ b) w' 3 1 (.slice am mn cm) mn (i64s RL) ∧ mn = RL.length ∧ Keeps (fun _ => False) X w') := hid (fun X => by have h := Missing_any sn a2 c2 nx ⟨k2, i2⟩ nx hv ri lk X (by omega) (.inr (by omega)) hnx0 (by omega) hnx0 (by omega) hvb.1 hvb.2; have e := HME.out; rw [HHV.out, N_sn.out] at e; rw [e] at h; exact h)
    go_upto_region 3 with fail
    go_cut [4] from 23 to 28 (fun u4 wx => ∃ (am : Option Addr), ∃ (mn : Nat), ∃ (cm : Nat), u4 = (.slice am mn cm) ∧ Hd (Own (fun b => W2.heap.size ≤ b) wx 3 1 (.slice am mn cm) mn (i64s RL)) ∧ Hd (mn = RL.length) ∧ Hd (Keeps (fun _ => False) W2 wx))
    case first =>
      have KC : Hd (Keeps (fun _ => False) W2 W2) := hid (Keeps.refl _ _)
      have HSS : Hd (∀ w', Keeps (fun _ => False) W2 w' → (w'.cell? ⟨p, 0, none⟩ = some ((.slice a2 sn c2)) ∧ w'.cell? ⟨p, 1, none⟩ = some ((.int .i64 nx)) ∧ w'.cell? ⟨p, 2, none⟩ = some ((.int .u64 (k2 : Int))) ∧ w'.cell? ⟨p, 3, none⟩ = some ((.int .i64 i2)) ∧ w'.cell? ⟨b_T, 0, none⟩ = some ((.int .i64 nx)) ∧ w'.cell? ⟨b_T, 1, none⟩ = some ((.int .i64 hv)) ∧ w'.cell? ⟨b_T, 2, none⟩ = some ((.int .i64 ri)) ∧ w'.cell? ⟨b_T, 3, none⟩ = some ((.bool lk)))) := hid (fun w' hk => ⟨blk_cell (blk_keep HBP.out hk (fun h => h)) 0, blk_cell (blk_keep HBP.out hk (fun h => h)) 1, blk_cell (blk_keep HBP.out hk (fun h => h)) 2, blk_cell (blk_keep HBP.out hk (fun h => h)) 3, blk_cell (blk_keep BT.out hk (fun h => h)) 0, blk_cell (blk_keep BT.out hk (fun h => h)) 1, blk_cell (blk_keep BT.out hk (fun h => h)) 2, blk_cell (blk_keep BT.out hk (fun h => h)) 3⟩)
      go_region_held (fun w' => w'.cell? ⟨p, 0, none⟩ = some ((.slice a2 sn c2)) ∧ w'.cell? ⟨p, 1, none⟩ = some ((.int .i64 nx)) ∧ w'.cell? ⟨p, 2, none⟩ = some ((.int .u64 (k2 : Int))) ∧ w'.cell? ⟨p, 3, none⟩ = some ((.int .i64 i2)) ∧ w'.cell? ⟨b_T, 0, none⟩ = some ((.int .i64 nx)) ∧ w'.cell? ⟨b_T, 1, none⟩ = some ((.int .i64 hv)) ∧ w'.cell? ⟨b_T, 2, none⟩ = some ((.int .i64 ri)) ∧ w'.cell? ⟨b_T, 3, none⟩ = some ((.bool lk))) (exact HSS.out _ (by repeat (first | (with_reducible refine Keeps.setCell (S := fun _ => False) ?_ (.inl (by first | (with_reducible rfl) | (simp <;> fail) | fail)) _) | (with_reducible apply Keeps.drewN) | (with_reducible apply Keeps.drew) | (with_reducible exact KC.out) | (with_reducible exact Keeps.refl _ _) | (with_reducible exact KC.out.mono (fun _ _ h => h.elim)))))
        (first
        | (go_at_call 48; (refine (HMI.out _).mono ?_); rintro e wy0 ⟨am, mn, cm, rfl, hom, hmn, hk⟩; have KC2 : Hd (Keeps (fun _ => False) W2 wy0) := hid (Keeps.trans (S := fun _ => False) (by repeat (first | (with_reducible exact KC.out) | (with_reducible exact Keeps.refl _ _) | (with_reducible apply Keeps.drewN) | (with_reducible apply Keeps.drew) | (with_reducible apply Keeps.alloc))) hk); have zc := KC.out.size; have zk := hk.size; (try simp at zk); have HMN := hid hmn; have HOM := hid (own_after hom (n := W2.heap.size) (by first | exact Nat.le_refl _ | (simp; done) | (simp; omega) | fail)); clear hom hmn; replace KC := KC2; clear KC2; replace hk := hid hk))
      all_goals
        go_wp2_with fail
        go_meet
        exact ⟨am, mn, cm, rfl, hid (HOM.out _ (by repeat (first | (with_reducible exact Keeps.refl _ _) | (with_reducible apply Keeps.drewN) | (with_reducible apply Keeps.drew)))), HMN, hid (by repeat (first | (with_reducible refine Keeps.setCell (S := fun _ => False) ?_ (.inl (by first | (with_reducible rfl) | (simp <;> fail) | fail)) _) | (with_reducible apply Keeps.drewN) | (with_reducible apply Keeps.drew) | (with_reducible exact KC.out) | (with_reducible exact Keeps.refl _ _) | (with_reducible exact KC.out.mono (fun _ _ h => h.elim))))⟩
    case rest =>
      obtain ⟨am, mn, cm, rfl, M_0, M_1, hk⟩ := hcut
      replace hk := hk.out
      generalize wc = W3 at *
      have HBP' : Hd (Blk W3 p #[(.slice a2 sn c2), (.int .i64 nx), (.int .u64 (k2 : Int)), (.int .i64 i2), (.int .i64 nx), (.slice aa fn ac), (.bool lk), (.int .u64 (rk : Int)), (.int .i64 ri), (.slice fa f2n fc), (.slice ra rpn rc), (.slice ga gn gc)] 60) := hid (blk_keep HBP.out hk (fun h => by exact h))
      have BT' : Hd (Blk W3 b_T #[(.int .i64 nx), (.int .i64 hv), (.int .i64 ri), (.bool lk)] 50) := hid (blk_keep BT.out hk (fun h => by exact h))
      have HW' : Hd (WR K D W3 p (roundS mm) a2 c2 aa ac fa fc ra rc ga gc) := hid (HW.out.keep hk (fun _ _ _ h => h))
      clear HBP BT HW
      have HBP := HBP'
      clear HBP'
      have BT := BT'
      clear BT'
      have HW := HW'
      clear HW'
      have HK : Hd (Keeps (fun _ => False) W2 W3) := hid hk
      have z_W3 := hk.size
      clear hk
      clear HMI
      have HMN := M_1; have HOM := M_0; clear M_0 M_1
      have HOL : Hd (∀ b, (Value.slice am mn cm).ownBlock = some b → W2.heap.size ≤ b ∧ b < W3.heap.size) := hid (fun b hb => ⟨HOM.out.2 b hb, (HOM.out.1.lt b hb).2⟩)
      have HSL0 : Hd (Sl (fun b => (Value.slice am mn cm).ownBlock = some b) W3 (.slice am mn cm) (i64s RL)) := hid (row_sl (Own.row (S := fun b => (Value.slice am mn cm).ownBlock = some b) ⟨HOM.out.1, fun _ h => h⟩) (by rw [i64s_length]; exact HMN.out.symm))
      have HW0 : Hd (WRx (fun b => K b ∧ (Value.slice am mn cm).ownBlock ≠ some b) (fun b => D b ∧ (Value.slice am mn cm).ownBlock ≠ some b) W3 p (roundAt mm 0)) := hid ⟨_, _, _, _, _, _, _, _, _, _, by rw [HST0.out]; exact (HW5.out.mono (K' := fun b => K b ∧ (Value.slice am mn cm).ownBlock ≠ some b) (D' := fun b => D b ∧ (Value.slice am mn cm).ownBlock ≠ some b) (fun b hb h => ⟨h, fun e => by have := HOL.out b e; omega⟩) (fun b hb h => ⟨h, fun e => by have := HOL.out b e; omega⟩)).keep HK.out (fun _ _ _ h => h)⟩
      have HKK0 : Hd (Keeps K w W3) := hid (HKK.out.trans' HK.out (fun _ _ h => h.elim))
      have zw6 := HKK0.out.size
      clear HW HK HKK HBP BT HOM
      go_wp2_with fail
      go_loopw [5] (fun iv wr => ∃ i : Nat, iv = .int .i64 (i : Int) ∧ i ≤ mn ∧ Hd (WRx (fun b => K b ∧ (Value.slice am mn cm).ownBlock ≠ some b) (fun b => D b ∧ (Value.slice am mn cm).ownBlock ≠ some b) wr p (roundAt mm i)) ∧ Hd (Keeps (fun b => K b ∧ (Value.slice am mn cm).ownBlock ≠ some b) W3 wr)) (fun iv _ => mn - (intOf iv).toNat)
      case atStart => exact ⟨0, rfl, Nat.zero_le _, HW0, hid (Keeps.refl _ _)⟩
      case round =>
        obtain ⟨V, rfl⟩ : ∃ V, V = wr := ⟨_, rfl⟩
        obtain ⟨i, rfl, hi1, HW, HKL⟩ := hrel
        clear HW0
        have j0 : (0 : Int) ≤ i := by omega
        have hi16 : i ≤ 16 := by have := HMN.out; omega
        have zV := HKL.out.size
        by_cases hlt : i < mn
        · have j1 : (i : Int) < mn := by omega
          obtain ⟨q, hq⟩ : ∃ q, RL[i]? = some q := ⟨RL[i]'(by rw [← HMN.out]; exact hlt), List.getElem?_eq_getElem _⟩
          have HQ := hid hq
          have HSL := hid (HSL0.out.keep HKL.out (fun b _ h1 h2 => h2.2 h1))
          obtain ⟨al, cl, eal, -, -, hcx⟩ := HSL.out.ints
          injection eal with ea1 ea2 ea3
          subst ea1
          obtain ⟨bl, ol, rfl, hown, hbl, hcell⟩ := hcx (by rw [← HMN.out]; omega)
          have HCL := hid (show V.cell? ⟨bl, ol + i, none⟩ = some (.int .i64 q) from by rw [hcell i (by rw [← HMN.out]; exact hlt)]; rw [List.getD, hq]; rfl)
          clear hcx hcell ea2 ea3 hq
          obtain ⟨hq01, HE, HNX⟩ := HRE.out i q HQ.out
          have HE := hid HE; have HNX := hid HNX
          obtain ⟨HRSi, HOi⟩ := HRA.out i (by rw [← HMN.out]; exact hi1)
          have HRSi := hid HRSi; have HOi := hid HOi
          have HFOi := hid (HFO.out i q HQ.out)
          obtain ⟨sa, sc, aa, ac, fa, fc, ra, rc, ga, gc, hw⟩ := HW.out
          have HW := hid hw
          clear hw
          have HMLi := hid (WR.lt HW.out)
          have HNi : Hd (roundAt mm (i + 1) = arriveM ⟨⟨(roundAt mm i).s.bs, (roundAt mm i).s.a, nextL (roundAt mm i).s.l⟩, (roundAt mm i).r, (roundAt mm i).fs, (roundAt mm i).rp, (roundAt mm i).gt⟩ (signF (roundAt mm i).s.l ⟨q, 0, false, (roundAt mm i).s.bs.getD q.toNat [], 0⟩)) := hid (by rw [HNX.out]; unfold roundStep; rw [HE.out])
          clear HNX
          have hbsl : (roundAt mm i).s.bs.length ≤ 100000 := by have := HRSi.out.w.bn; omega
          have hsa0 := HRSi.out.w.a0
          have hsa1 : (roundAt mm i).s.a ≤ 1000000000000 := by have := HRSi.out.w.a1; have := HRSi.out.w.r.n1; omega
          have hgtl : (roundAt mm i).gt.length ≤ 100000 := by have := (winv_gt HRSi.out.w).2; omega
          have HLi : Hd (roundAt mm i).s.l.ok := hid (HOi.out.lok HRSi.out.w (by omega))
          have HSBi : Hd (∀ x ∈ (roundAt mm i).s.bs, x.length ≤ 512 ∧ ∀ c ∈ x, c < 256) := hid (fun x hx => ⟨HRSi.out.w.bl x hx, HOi.out.b x hx⟩)
          have HRi : Hd ((roundAt mm i).r.ok (5000 * ((n + i : Nat) : Int))) := hid HOi.out.r
          have hB : 5000 * ((n + i : Nat) : Int) ≤ 1000000000 := by omega
          generalize roundAt mm i = mi at *
          obtain ⟨⟨bs, a, ⟨k3, i3⟩⟩, ⟨nx, fs, lk, ⟨rk, ri⟩⟩, FSq, RP, GT⟩ := mi
          simp only [] at HE HNi hbsl hsa0 hsa1 hgtl HLi HSBi HFOi HRi
          obtain ⟨F, hF⟩ : ∃ F, signF ⟨k3, i3⟩ ⟨q, 0, false, bs.getD q.toNat [], 0⟩ = F := ⟨_, rfl⟩
          rw [hF] at HE HNi HFOi
          clear hF
          obtain ⟨⟨k4, i4⟩, hL4⟩ : ∃ L, nextL ⟨k3, i3⟩ = L := ⟨_, rfl⟩
          rw [hL4] at HE HNi
          clear hL4
          have HBP := hid HW.out.blk
          have HSB := hid HW.out.sb
          simp only [] at HBP HSB
          obtain ⟨sn, hsn⟩ : ∃ n, bs.length = n := ⟨_, rfl⟩
          have N_sn := hid hsn
          rw [hsn] at HBP HSB hbsl
          clear hsn
          obtain ⟨fn, hfn⟩ : ∃ n, fs.length = n := ⟨_, rfl⟩
          have N_fn := hid hfn
          rw [hfn] at HBP
          clear hfn
          obtain ⟨f2n, hf2n⟩ : ∃ n, FSq.length = n := ⟨_, rfl⟩
          have N_f2n := hid hf2n
          rw [hf2n] at HBP
          clear hf2n
          obtain ⟨rpn, hrpn⟩ : ∃ n, RP.length = n := ⟨_, rfl⟩
          have N_rpn := hid hrpn
          rw [hrpn] at HBP
          clear hrpn
          obtain ⟨gn, hgn⟩ : ∃ n, GT.length = n := ⟨_, rfl⟩
          have N_gn := hid hgn
          rw [hgn] at HBP hgtl
          clear hgn
          obtain ⟨fl, hfl⟩ : ∃ n, F.b.length = n := ⟨_, rfl⟩
          have HFL := hid hfl
          clear hfl
          have HEM : Hd (∀ X, Keeps (fun _ => False) V X → Calls Tryd.prog 39 #[.agg #[.slice sa sn sc, .int .i64 a, .int .u64 (k3 : Int), .int .i64 i3], .int .i64 q] X fun e w' => ∃ a1 c1 a2 c2, e = .returned (.tuple #[.agg #[.int .i64 F.q, .int .i64 F.k, .bool F.u, .slice a1 fl c1, .int .u64 (F.t : Int)], .agg #[.slice a2 sn c2, .int .i64 a, .int .u64 (k4 : Int), .int .i64 i4], .int .i64 0]) ∧ Sl (fun b => X.heap.size ≤ b) w' (.slice a1 fl c1) (u8s F.b) ∧ Bds (fun b => X.heap.size ≤ b) w' (.slice a2 sn c2) bs ∧ Keeps (fun _ => False) X w') := hid (fun X hx => by have h := Emit_all ⟨bs, a, ⟨k3, i3⟩⟩ sa sc q _ X (by simp only [N_sn.out]; exact HSB.out.keep hx (fun _ _ _ h => h)) (by simp only [N_sn.out]; exact hbsl) HSBi.out HLi.out hsa0 hsa1; unfold EmitAll at h; rw [HE.out] at h; simp only [N_sn.out, HFL.out] at h; exact h)
          go_upto_region 7 with fail
          go_cut [8, 6, 7] from 35 to 47 (fun u8 u6 u7 wx => ∃ (a1 : Option Addr) (c1 : Nat) (a2 : Option Addr) (c2 : Nat), u8 = .int .i64 0 ∧ ∃ bF, u6 = .pointer (some ⟨bF, 0, none⟩) ∧ ∃ bS, u7 = .pointer (some ⟨bS, 0, none⟩) ∧ V.heap.size ≤ bF ∧ V.heap.size ≤ bS ∧ Hd (Blk wx bF #[(.int .i64 F.q), (.int .i64 F.k), (.bool F.u), (.slice a1 fl c1), (.int .u64 (F.t : Int))] 25) ∧ Hd (Blk wx bS #[(.slice a2 sn c2), (.int .i64 a), (.int .u64 (k4 : Int)), (.int .i64 i4)] 57) ∧ Hd (Sl (fun b => V.heap.size ≤ b) wx (.slice a1 fl c1) (u8s F.b)) ∧ Hd (Bds (fun b => V.heap.size ≤ b) wx (.slice a2 sn c2) bs) ∧ Hd (Keeps (fun _ => False) V wx))
          case first =>
            refine wp_two (C := emCfg [8, 9, 10, 11, 13, 14, 15, 16] 44 35 45 46 6 7 [.pointer (some ⟨p, 0, none⟩), .pointer (some ⟨p, 0, none⟩), .pointer (some ⟨p, 0, none⟩), .agg #[.slice sa sn sc, .int .i64 a, .int .u64 (k3 : Int), .int .i64 i3], .slice (some ⟨bl, ol, none⟩) mn cm, .int .i64 (i : Int), .pointer (some ⟨bl, ol + i, none⟩), .int .i64 q, undef, undef, undef, undef, .int .i64 0, undef, undef, undef, undef, .int .i64 0] [.int .i64 0] F ⟨bs, a, ⟨k4, i4⟩⟩) (by kernel_rfl) ?H ?HV 8 rfl ?HC ?HE
            case H => exact ⟨by kernel_rfl, uniqB_spec (by kernel_rfl), underB_spec (by kernel_rfl), ⟨_, rfl, rfl⟩, ⟨_, rfl, rfl, rfl, rfl, waitsB_spec (by kernel_rfl)⟩, ⟨_, rfl, rfl, rfl, rfl, waitsB_spec (by kernel_rfl)⟩, ⟨_, rfl, rfl, rfl, rfl, waitsB_spec (by kernel_rfl)⟩, ⟨_, rfl, rfl, rfl, rfl⟩, ⟨_, rfl, rfl, rfl, rfl⟩, ⟨_, rfl, rfl, rfl, rfl, waitsB_spec (by kernel_rfl), waitsB_spec (by kernel_rfl)⟩, ⟨_, rfl, rfl, rfl, rfl, waitsB_spec (by kernel_rfl), waitsB_spec (by kernel_rfl)⟩, emVal (by kernel_rfl), emAll (by kernel_rfl), ⟨rfl, rfl, rfl, rfl, rfl, rfl, rfl, rfl⟩, emNd (by decide), emSem _ _ _ _ _ _ _ _ _ _ _⟩
            case HV =>
              intro iq o hv hi aq w' hk hd
              match iq, hv, hi with
              | 0, _, hi =>
                have hi1 := hi
                simp only [List.getElem?_cons_succ, List.getElem?_cons_zero, Option.some.injEq] at hi1
                subst hi1
                have e0 : aq.eval (.tmp 0) = .pointer (some ⟨p, 0, none⟩) := (hd.out (by kernel_rfl)).trans rfl
                exact wpOp_ranL hi rfl (v := .pointer (some ⟨p, 0, none⟩)) (w' := w') (by simp only [execOp, e0]; rfl) ⟨rfl, Keeps.refl _ _⟩
              | 1, _, hi =>
                have hi1 := hi
                simp only [List.getElem?_cons_succ, List.getElem?_cons_zero, Option.some.injEq] at hi1
                subst hi1
                have e0 : aq.eval (.tmp 36) = .pointer (some ⟨p, 0, none⟩) := hd.val (j := 0) (by kernel_rfl) rfl rfl rfl
                exact wpOp_ranL hi rfl (v := .pointer (some ⟨p, 0, none⟩)) (w' := w') (by simp only [execOp, e0]; rfl) ⟨rfl, Keeps.refl _ _⟩
              | 2, _, hi =>
                have hi1 := hi
                simp only [List.getElem?_cons_succ, List.getElem?_cons_zero, Option.some.injEq] at hi1
                subst hi1
                have e0 : aq.eval (.tmp 37) = .pointer (some ⟨p, 0, none⟩) := hd.val (j := 1) (by kernel_rfl) rfl rfl rfl
                exact wpOp_ranL hi rfl (v := .pointer (some ⟨p, 0, none⟩)) (w' := w') (by simp only [execOp, e0]; go_simp) ⟨rfl, Keeps.refl _ _⟩
              | 3, _, hi =>
                have hi1 := hi
                simp only [List.getElem?_cons_succ, List.getElem?_cons_zero, Option.some.injEq] at hi1
                subst hi1
                have e0 : aq.eval (.tmp 38) = .pointer (some ⟨p, 0, none⟩) := hd.val (j := 2) (by kernel_rfl) rfl rfl rfl
                have c0 := keep_cell hk (fun h => h) (blk_cell HBP.out 0)
                have c1 := keep_cell hk (fun h => h) (blk_cell HBP.out 1)
                have c2 := keep_cell hk (fun h => h) (blk_cell HBP.out 2)
                have c3 := keep_cell hk (fun h => h) (blk_cell HBP.out 3)
                exact wpOp_ranL hi rfl (v := .agg #[.slice sa sn sc, .int .i64 a, .int .u64 (k3 : Int), .int .i64 i3]) (w' := w') (by simp only [execOp, e0]; go_simp) ⟨rfl, Keeps.refl _ _⟩
              | 4, _, hi =>
                have hi1 := hi
                simp only [List.getElem?_cons_succ, List.getElem?_cons_zero, Option.some.injEq] at hi1
                subst hi1
                have e0 : aq.eval (.tmp 4) = .slice (some ⟨bl, ol, none⟩) mn cm := (hd.out (by kernel_rfl)).trans rfl
                exact wpOp_ranL hi rfl (v := .slice (some ⟨bl, ol, none⟩) mn cm) (w' := w') (by simp only [execOp, e0]; rfl) ⟨rfl, Keeps.refl _ _⟩
              | 5, _, hi =>
                have hi1 := hi
                simp only [List.getElem?_cons_succ, List.getElem?_cons_zero, Option.some.injEq] at hi1
                subst hi1
                have e0 : aq.eval (.tmp 5) = .int .i64 (i : Int) := (hd.out (by kernel_rfl)).trans rfl
                exact wpOp_ranL hi rfl (v := .int .i64 (i : Int)) (w' := w') (by simp only [execOp, e0]; rfl) ⟨rfl, Keeps.refl _ _⟩
              | 6, _, hi =>
                have hi1 := hi
                simp only [List.getElem?_cons_succ, List.getElem?_cons_zero, Option.some.injEq] at hi1
                subst hi1
                have e0 : aq.eval (.tmp 40) = .slice (some ⟨bl, ol, none⟩) mn cm := hd.val (j := 4) (by kernel_rfl) rfl rfl rfl
                have e1 : aq.eval (.tmp 41) = .int .i64 (i : Int) := hd.val (j := 5) (by kernel_rfl) rfl rfl rfl
                exact wpOp_ranL hi rfl (v := .pointer (some ⟨bl, ol + i, none⟩)) (w' := w') (by simp only [execOp, e0, e1]; go_simp) ⟨rfl, Keeps.refl _ _⟩
              | 7, _, hi =>
                have hi1 := hi
                simp only [List.getElem?_cons_succ, List.getElem?_cons_zero, Option.some.injEq] at hi1
                subst hi1
                have e0 : aq.eval (.tmp 42) = .pointer (some ⟨bl, ol + i, none⟩) := hd.val (j := 6) (by kernel_rfl) rfl rfl rfl
                have c0 := keep_cell hk (fun h => h) HCL.out
                exact wpOp_ranL hi rfl (v := .int .i64 q) (w' := w') (by simp only [execOp, e0]; go_simp) ⟨rfl, Keeps.refl _ _⟩
              | 8, hv, _ => cases hv
              | 9, hv, _ => cases hv
              | 10, hv, _ => cases hv
              | 11, hv, _ => cases hv
              | 12, _, hi =>
                have hi1 := hi
                simp only [List.getElem?_cons_succ, List.getElem?_cons_zero, Option.some.injEq] at hi1
                subst hi1
                obtain ⟨x0, y0, e0⟩ : ∃ x y, aq.eval (.tmp 35) = .tuple #[x, y, .int .i64 0] := hd.tup (show waitsB _ 9 = true by kernel_rfl)
                exact wpOp_ranL hi rfl (v := .int .i64 0) (w' := w') (by simp only [execOp, e0]; rfl) ⟨rfl, Keeps.refl _ _⟩
              | 13, hv, _ => cases hv
              | 14, hv, _ => cases hv
              | 15, hv, _ => cases hv
              | 16, hv, _ => cases hv
              | 17, _, hi =>
                have hi1 := hi
                simp only [List.getElem?_cons_succ, List.getElem?_cons_zero, Option.some.injEq] at hi1
                subst hi1
                have e0 : aq.eval (.tmp 47) = .int .i64 0 := hd.val (j := 12) (by kernel_rfl) rfl rfl rfl
                exact wpOp_ranL hi rfl (v := .int .i64 0) (w' := w') (by simp only [execOp, e0]; rfl) ⟨rfl, Keeps.refl _ _⟩
              | n + 18, _, hi => simp at hi
            case HC =>
              intro o hi aq w' hk hd
              have hi1 := hi
              simp only [List.getElem?_cons_succ, List.getElem?_cons_zero, Option.some.injEq] at hi1
              subst hi1
              have e0 : aq.eval (.tmp 39) = .agg #[.slice sa sn sc, .int .i64 a, .int .u64 (k3 : Int), .int .i64 i3] := hd.val (j := 3) (by kernel_rfl) rfl rfl rfl
              have e1 : aq.eval (.tmp 43) = .int .i64 q := hd.val (j := 7) (by kernel_rfl) rfl rfl rfl
              exact wpOp_callL hi rfl (f := 39) (args := #[.agg #[.slice sa sn sc, .int .i64 a, .int .u64 (k3 : Int), .int .i64 i3], .int .i64 q]) (by simp only [execOp_call_go, List.map_toArray, List.map_cons, List.map_nil, e0, e1]; rfl) ((HEM.out _ hk).mono (fun e w2 ⟨a1, c1, a2, c2, he, hsl, hbd, hk2⟩ => ⟨_, he, _, _, rfl, hk2, a1, c1, a2, c2, by rw [HFL.out], by simp only [N_sn.out], by rw [HFL.out]; exact hsl, by simp only [N_sn.out]; exact hbd⟩))
            case HE =>
              intro L aq w' gF gS xx yy hL hT
              have em := act_mix (bs := [true, true, true, true, true, true, false, false, false, true, true, true, true, true, true, true, true, true, true, true, true, true, true, true, true, true, true, true, true, true, true, true, true, true, true, false, false, false, false, false, false, false, false, false, false, false, false, false, true, true, true, true, true, true, true, true, true]) hT.sz hT.df hT.fr rfl (by kernel_rfl)
              have hF := hT.f (hL 13 (by decide))
              have hS := hT.s (hL 14 (by decide))
              have hC := hT.c (hL 8 (by decide))
              have kW := hT.kp
              have eF := hF.1
              have eS := hS.1
              obtain ⟨gF0, csF, -, bF, sF⟩ := hF.2
              obtain ⟨gS0, csS, -, bS, sS⟩ := hS.2
              have sF := sF (hL 15 (by decide))
              have sS := sS (hL 16 (by decide))
              subst sF sS
              have k8 : aq.tmps.getD 8 undef = .int .i64 0 := hT.v 17 _ 8 rfl (hL 17 (by decide)) rfl rfl
              change aq.tmps.getD 6 undef = _ at eF
              change aq.tmps.getD 7 undef = _ at eS
              have hR := hC.2
              clear hF hS hC hT hL
              simp only [mix, eF, eS, k8] at em
              clear eF eS k8
              generalize aq.tmps.getD 36 undef = q36 at em
              generalize aq.tmps.getD 37 undef = q37 at em
              generalize aq.tmps.getD 38 undef = q38 at em
              generalize aq.tmps.getD 39 undef = q39 at em
              generalize aq.tmps.getD 40 undef = q40 at em
              generalize aq.tmps.getD 41 undef = q41 at em
              generalize aq.tmps.getD 42 undef = q42 at em
              generalize aq.tmps.getD 43 undef = q43 at em
              generalize aq.tmps.getD 44 undef = q44 at em
              generalize aq.tmps.getD 35 undef = q35 at em
              generalize aq.tmps.getD 45 undef = q45 at em
              generalize aq.tmps.getD 46 undef = q46 at em
              generalize aq.tmps.getD 47 undef = q47 at em
              subst em
              simp only [Exit.then]
              go_wp2_with fail
              go_meet
              obtain ⟨a1, c1, a2, c2, rfl, rfl, hs9, hb9⟩ := hR
              exact ⟨a1, c1, a2, c2, rfl, gF, rfl, gS, rfl, gF0, gS0, hid (by rw [← HFL.out]; exact bF), hid (by rw [← N_sn.out]; exact bS), hid (by rw [← HFL.out]; exact hs9.mono (fun b _ h => h.1)), hid (by rw [← N_sn.out]; exact hb9.mono (fun b _ h => h.1)), hid kW⟩
          case rest =>
            obtain ⟨a1, c1, a2, c2, rfl, b_F, rfl, b_S, rfl, hb_F, hb_S, B_F, B_S, M_0, M_1, hk⟩ := hcut
            replace hk := hk.out
            generalize wc = W21 at *
            have HBP' : Hd (Blk W21 p #[(.slice sa sn sc), (.int .i64 a), (.int .u64 (k3 : Int)), (.int .i64 i3), (.int .i64 nx), (.slice aa fn ac), (.bool lk), (.int .u64 (rk : Int)), (.int .i64 ri), (.slice fa f2n fc), (.slice ra rpn rc), (.slice ga gn gc)] 60) := hid (blk_keep HBP.out hk (fun h => h))
            have HW' : Hd (WR (fun b => K b ∧ (Value.slice (some ⟨bl, ol, none⟩) mn cm).ownBlock ≠ some b) (fun b => D b ∧ (Value.slice (some ⟨bl, ol, none⟩) mn cm).ownBlock ≠ some b) W21 p ⟨⟨bs, a, ⟨k3, i3⟩⟩, ⟨nx, fs, lk, ⟨rk, ri⟩⟩, FSq, RP, GT⟩ sa sc aa ac fa fc ra rc ga gc) := hid (HW.out.keep hk (fun _ _ _ h => h))
            clear HBP HW
            have HBP := HBP'
            clear HBP'
            have HW := HW'
            clear HW'
            have HK : Hd (Keeps (fun _ => False) V W21) := hid hk
            have z_W21 := hk.size
            clear hk
            clear HEM HCL
            have zp := blk_lt HBP.out
            have hpV : p < V.heap.size := HMLi.out p (.inl rfl)
            have nePS : b_S ≠ p := by omega
            have nePF : b_F ≠ p := by omega
            have o_HBP_0 : W21.cell? ⟨p, 0, none⟩ = some ((.slice sa sn sc)) := blk_cell HBP.out 0
            have o_HBP_1 : W21.cell? ⟨p, 1, none⟩ = some ((.int .i64 a)) := blk_cell HBP.out 1
            have o_HBP_2 : W21.cell? ⟨p, 2, none⟩ = some ((.int .u64 (k3 : Int))) := blk_cell HBP.out 2
            have o_HBP_3 : W21.cell? ⟨p, 3, none⟩ = some ((.int .i64 i3)) := blk_cell HBP.out 3
            have o_HBP_4 : W21.cell? ⟨p, 4, none⟩ = some ((.int .i64 nx)) := blk_cell HBP.out 4
            have o_HBP_5 : W21.cell? ⟨p, 5, none⟩ = some ((.slice aa fn ac)) := blk_cell HBP.out 5
            have o_HBP_6 : W21.cell? ⟨p, 6, none⟩ = some ((.bool lk)) := blk_cell HBP.out 6
            have o_HBP_7 : W21.cell? ⟨p, 7, none⟩ = some ((.int .u64 (rk : Int))) := blk_cell HBP.out 7
            have o_HBP_8 : W21.cell? ⟨p, 8, none⟩ = some ((.int .i64 ri)) := blk_cell HBP.out 8
            have o_HBP_9 : W21.cell? ⟨p, 9, none⟩ = some ((.slice fa f2n fc)) := blk_cell HBP.out 9
            have o_HBP_10 : W21.cell? ⟨p, 10, none⟩ = some ((.slice ra rpn rc)) := blk_cell HBP.out 10
            have o_HBP_11 : W21.cell? ⟨p, 11, none⟩ = some ((.slice ga gn gc)) := blk_cell HBP.out 11
            have f_HBP_0 : W21.frozen? ⟨p, 0, none⟩ = false := blk_free HBP.out 0
            have f_HBP_1 : W21.frozen? ⟨p, 1, none⟩ = false := blk_free HBP.out 1
            have f_HBP_2 : W21.frozen? ⟨p, 2, none⟩ = false := blk_free HBP.out 2
            have f_HBP_3 : W21.frozen? ⟨p, 3, none⟩ = false := blk_free HBP.out 3
            have f_HBP_4 : W21.frozen? ⟨p, 4, none⟩ = false := blk_free HBP.out 4
            have f_HBP_5 : W21.frozen? ⟨p, 5, none⟩ = false := blk_free HBP.out 5
            have f_HBP_6 : W21.frozen? ⟨p, 6, none⟩ = false := blk_free HBP.out 6
            have f_HBP_7 : W21.frozen? ⟨p, 7, none⟩ = false := blk_free HBP.out 7
            have f_HBP_8 : W21.frozen? ⟨p, 8, none⟩ = false := blk_free HBP.out 8
            have f_HBP_9 : W21.frozen? ⟨p, 9, none⟩ = false := blk_free HBP.out 9
            have f_HBP_10 : W21.frozen? ⟨p, 10, none⟩ = false := blk_free HBP.out 10
            have f_HBP_11 : W21.frozen? ⟨p, 11, none⟩ = false := blk_free HBP.out 11
            have o_B_S_0 : W21.cell? ⟨b_S, 0, none⟩ = some ((.slice a2 sn c2)) := blk_cell B_S.out 0
            have o_B_S_1 : W21.cell? ⟨b_S, 1, none⟩ = some ((.int .i64 a)) := blk_cell B_S.out 1
            have o_B_S_2 : W21.cell? ⟨b_S, 2, none⟩ = some ((.int .u64 (k4 : Int))) := blk_cell B_S.out 2
            have o_B_S_3 : W21.cell? ⟨b_S, 3, none⟩ = some ((.int .i64 i4)) := blk_cell B_S.out 3
            have o_B_F_0 : W21.cell? ⟨b_F, 0, none⟩ = some ((.int .i64 F.q)) := blk_cell B_F.out 0
            have o_B_F_1 : W21.cell? ⟨b_F, 1, none⟩ = some ((.int .i64 F.k)) := blk_cell B_F.out 1
            have o_B_F_2 : W21.cell? ⟨b_F, 2, none⟩ = some ((.bool F.u)) := blk_cell B_F.out 2
            have o_B_F_3 : W21.cell? ⟨b_F, 3, none⟩ = some ((.slice a1 fl c1)) := blk_cell B_F.out 3
            have o_B_F_4 : W21.cell? ⟨b_F, 4, none⟩ = some ((.int .u64 (F.t : Int))) := blk_cell B_F.out 4
            go_upto_region 11 with fail
            clear o_HBP_0 o_HBP_1 o_HBP_2 o_HBP_3 o_HBP_4 o_HBP_5 o_HBP_6 o_HBP_7 o_HBP_8 o_HBP_9 o_HBP_10 o_HBP_11 f_HBP_0 f_HBP_1 f_HBP_2 f_HBP_3 f_HBP_4 f_HBP_5 f_HBP_6 f_HBP_7 f_HBP_8 f_HBP_9 f_HBP_10 f_HBP_11 o_B_S_0 o_B_S_1 o_B_S_2 o_B_S_3 o_B_F_0 o_B_F_1 o_B_F_2 o_B_F_3 o_B_F_4
            generalize hW : World.setCell (World.setCell (World.setCell (World.setCell W21 _ _) _ _) _ _) _ _ = W3
            have HS3 : Hd (WRx (fun b => K b ∧ (Value.slice (some ⟨bl, ol, none⟩) mn cm).ownBlock ≠ some b) (fun b => D b ∧ (Value.slice (some ⟨bl, ol, none⟩) mn cm).ownBlock ≠ some b) W3 p ⟨⟨bs, a, ⟨k4, i4⟩⟩, ⟨nx, fs, lk, ⟨rk, ri⟩⟩, FSq, RP, GT⟩) := hid (by
              have h := HW.out.setS (s := ⟨bs, a, ⟨k4, i4⟩⟩) (sa2 := a2) (sc2 := c2) (by simp only [N_sn.out]; exact M_1.out.mono (fun b _ h => ⟨⟨(HKF.out b (by omega)).2, fun e => by have := HOL.out b e; omega⟩, fun e => by have := HMLi.out b e; omega⟩))
              simp only [N_sn.out] at h
              rw [← hW]; exact ⟨_, _, _, _, _, _, _, _, _, _, h⟩)
            have k3 : Keeps (fun b => b = p) W21 W3 := by rw [← hW]; exact keep4' _ _ _ _ _ _ _ _ _ _
            have HSF : Hd (Sl (fun b => V.heap.size ≤ b) W3 (.slice a1 fl c1) (u8s F.b)) := hid (M_0.out.keep k3 (fun b _ h1 h2 => by omega))
            have HBF : Hd (Blk W3 b_F #[(.int .i64 F.q), (.int .i64 F.k), (.bool F.u), (.slice a1 fl c1), (.int .u64 (F.t : Int))] 25) := hid (blk_keep B_F.out k3 (fun h => by omega))
            have HK3 : Hd (Keeps (fun b => K b ∧ (Value.slice (some ⟨bl, ol, none⟩) mn cm).ownBlock ≠ some b) V W3) := hid ((HK.out.mono (fun _ _ h => h.elim)).trans' k3 (fun i hi h => by rw [h]; exact HW.out.k p (.inl rfl)))
            have z3 : W21.heap.size ≤ W3.heap.size := k3.size
            clear hW k3 M_0 M_1 HK HBP HW HSB B_F B_S
            have d0 : W3.cell? ⟨b_F, 0, none⟩ = some ((.int .i64 F.q)) := blk_cell HBF.out 0
            have d1 : W3.cell? ⟨b_F, 1, none⟩ = some ((.int .i64 F.k)) := blk_cell HBF.out 1
            have d2 : W3.cell? ⟨b_F, 2, none⟩ = some ((.bool F.u)) := blk_cell HBF.out 2
            have d3 : W3.cell? ⟨b_F, 3, none⟩ = some ((.slice a1 fl c1)) := blk_cell HBF.out 3
            have d4 : W3.cell? ⟨b_F, 4, none⟩ = some ((.int .u64 (F.t : Int))) := blk_cell HBF.out 4
            have HAR : Hd (Calls Tryd.prog 51 #[.pointer (some ⟨p, 0, none⟩), .agg #[.int .i64 F.q, .int .i64 F.k, .bool F.u, .slice a1 fl c1, .int .u64 (F.t : Int)]] W3 fun e w' => (∃ er, e = .returned (.int .i64 er)) ∧ WRx (fun b => K b ∧ (Value.slice (some ⟨bl, ol, none⟩) mn cm).ownBlock ≠ some b) (fun b => D b ∧ (Value.slice (some ⟨bl, ol, none⟩) mn cm).ownBlock ≠ some b) w' p (roundAt mm (i + 1)) ∧ Keeps (fun b => K b ∧ (Value.slice (some ⟨bl, ol, none⟩) mn cm).ownBlock ≠ some b) W3 w') := hid (by
              have h := arrive_any ⟨⟨bs, a, ⟨k4, i4⟩⟩, ⟨nx, fs, lk, ⟨rk, ri⟩⟩, FSq, RP, GT⟩ p F a1 c1 (fun b => K b ∧ (Value.slice (some ⟨bl, ol, none⟩) mn cm).ownBlock ≠ some b) (fun b => D b ∧ (Value.slice (some ⟨bl, ol, none⟩) mn cm).ownBlock ≠ some b) _ W3 HS3.out (fun b hb => ⟨⟨(HKF.out b (by omega)).1, fun e => by have := HOL.out b e; omega⟩, (HKF.out b (by omega)).2, fun e => by have := HOL.out b e; omega⟩) (by rw [HFL.out]; exact HSF.out) _ HRi.out hB HFOi.out (by simp only [N_gn.out]; exact hgtl)
              rw [← HNi.out, HFL.out] at h
              exact h.mono (fun e w' h => ⟨⟨_, h.1⟩, h.2⟩))
            go_wp2_with fail
            refine HAR.out.mono ?_
            rintro e w8 ⟨⟨er, rfl⟩, hwr, hkk⟩
            have HW8 := hid hwr
            have HK8 := hid (HKL.out.trans (HK3.out.trans hkk))
            clear hwr hkk HAR d0 d1 d2 d3 d4
            go_wp2
            go_roundw
            case rel => exact ⟨i + 1, by go_num, by omega, HW8, HK8⟩
            case measure => simp [intOf]; omega
        · have j1 : ¬ ((i : Int) < mn) := by omega
          have hie : i = RL.length := by rw [← HMN.out]; omega
          go_wp2
          go_ret
          rw [← HEND.out, ← hie]
          obtain ⟨sa, sc, aa, ac, fa, fc, ra, rc, ga, gc, hw⟩ := HW.out
          exact ⟨rfl, ⟨_, _, _, _, _, _, _, _, _, _, hw.mono (fun b _ h => h.1) (fun b _ h => h.1)⟩, HKK0.out.trans (HKL.out.mono (fun b _ h => h.1))⟩
end Go.Proofs.YthoikljmokkchaaDoor
