/- Frame: an act of a history. -/
import Derived.Test.YthoikljmokkchaaDoorFrWrl
import Derived.Test.YthoikljmokkchaaDoorFrRun
import Derived.Test.YthoikljmokkchaaDoorAppStep
import Derived.Test.YthoikljmokkchaaDoorFrTwo
import Derived.Lib.MinMax
import Derived.Deep.DrawnRows
namespace Go.Proofs.YthoikljmokkchaaDoor
open Go.RowKit
attribute [local go_sem ↓] Go.wp_at_zero Go.wp_at_succ
section
variable {K D : Nat → Prop} {w : World} {p : Nat} {m : WM} {sa : Option Addr} {sc : Nat} {aa : Option Addr} {ac : Nat} {fa : Option Addr} {fc : Nat} {ra : Option Addr} {rc : Nat} {ga : Option Addr} {gc : Nat}
end
theorem FrO.frs {D : Nat → Prop} {w : World} {v : Value} {l : List Fr} (h : FrO D w v l) : Frs (fun b => v.ownBlock = some b ∨ D b) w v l := by
  obtain ⟨xs, h1, h2⟩ := h
  exact ⟨xs, h1.row.mono (fun b _ hb => .inl hb), h2.mono (fun b _ hb => .inr hb)⟩
theorem rpo_cells {w : World} {a : Option Addr} {n c : Nat} {l : List Rp} (h : RpO w (.slice a n c) l) (hl : 0 < l.length) :
    ∃ b o, a = some ⟨b, o, none⟩ ∧ ∀ k x, l[k]? = some x → w.cell? ⟨b, o + k * 4, none⟩ = some (.int .i64 x.nx) ∧ w.cell? ⟨b, o + k * 4 + 1, none⟩ = some (.int .i64 x.ha) ∧ w.cell? ⟨b, o + k * 4 + 2, none⟩ = some (.int .i64 x.ky) ∧ w.cell? ⟨b, o + k * 4 + 3, none⟩ = some (.bool x.lk) := by
  obtain ⟨xs, ho, hc⟩ := h
  obtain ⟨a', c', e, _, _, hel⟩ := ho.row.form
  injection e with e1 e2 e3
  subst e1
  obtain ⟨b, o, ea, hK, hb, hcell⟩ := hel hl
  refine ⟨b, o, ea, fun k x hx => ?_⟩
  have hk : k < l.length := (List.getElem?_eq_some_iff.1 hx).1
  obtain ⟨t0, t1, t2, t3⟩ := hc.2 k x hx
  have key : ∀ j, j < 4 → w.cell? ⟨b, o + k * 4 + j, none⟩ = some (xs.getD (k * 4 + j) undef) := fun j hj => by rw [Nat.add_assoc]; exact hcell (k * 4 + j) (by omega)
  exact ⟨(key 0 (by omega)).trans (congrArg some t0), (key 1 (by omega)).trans (congrArg some t1), (key 2 (by omega)).trans (congrArg some t2), (key 3 (by omega)).trans (congrArg some t3)⟩
theorem actM_q {m : WM} {a : AC} (h : around a.kd 6 = 0) : actM m a = ⟨⟨m.s.bs ++ [a.b.take 20], m.s.a, m.s.l⟩, m.r, m.fs, m.rp, m.gt⟩ := by unfold actM; simp only [h, if_true]
theorem actM_e {m : WM} {a : AC} (h : around a.kd 6 = 1 ∨ around a.kd 6 = 2) : actM m a = if (emitM m.s (m.s.a + around a.n 18)).2.2 = 0 then ⟨(emitM m.s (m.s.a + around a.n 18)).2.1, m.r, m.fs ++ [(emitM m.s (m.s.a + around a.n 18)).1], m.rp, m.gt⟩ else m := by
  have h0 : around a.kd 6 ≠ 0 := by omega
  unfold actM emitQ
  simp only [h0, h, if_true, if_false]
theorem actM_a {m : WM} {a : AC} (h : around a.kd 6 = 3) : actM m a = if 0 < m.fs.length then arriveM m (m.fs.getD (around a.n m.fs.length).toNat zFr) else m := by
  have h0 : around a.kd 6 ≠ 0 := by omega
  have h1 : ¬ (around a.kd 6 = 1 ∨ around a.kd 6 = 2) := by omega
  unfold actM
  simp only [h0, h1, if_false]
  simp only [h, if_true]
theorem actM_s {m : WM} {a : AC} (h : around a.kd 6 = 4) : actM m a = ⟨m.s, m.r, m.fs, m.rp ++ [stateM m.r], m.gt⟩ := by
  have h0 : around a.kd 6 ≠ 0 := by omega
  have h1 : ¬ (around a.kd 6 = 1 ∨ around a.kd 6 = 2) := by omega
  have h3 : around a.kd 6 ≠ 3 := by omega
  unfold actM
  simp only [h0, h1, h3, if_false]
  simp only [h, if_true]
theorem actM_c {m : WM} {a : AC} (h : 4 < around a.kd 6) : actM m a = if 0 < m.rp.length then ⟨confirmM m.s (m.rp.getD (around a.n m.rp.length).toNat zRp), m.r, m.fs, m.rp, m.gt⟩ else m := by
  have h0 : around a.kd 6 ≠ 0 := by omega
  have h1 : ¬ (around a.kd 6 = 1 ∨ around a.kd 6 = 2) := by omega
  have h3 : around a.kd 6 ≠ 3 := by omega
  have h4 : around a.kd 6 ≠ 4 := by omega
  unfold actM
  simp only [h0, h1, h3, h4, if_false]
theorem take_min {α : Type} (l : List α) (n : Nat) : l.take (min l.length n) = l.take n := by
  rcases Nat.le_total l.length n with h | h
  · rw [Nat.min_eq_left h, List.take_of_length_le (Nat.le_refl _), List.take_of_length_le h]
  · rw [Nat.min_eq_right h]
theorem cell_setx {X : World} {p i q o : Nat} {u : Value} (hne : q ≠ p ∨ o ≠ i) : (X.setCell ⟨p, i, none⟩ u).cell? ⟨q, o, none⟩ = X.cell? ⟨q, o, none⟩ := by
  by_cases h : q = p
  · subst h
    have ho : o ≠ i := by rcases hne with h | h; exact absurd rfl h; exact h
    simp only [World.cell?, World.setCell, Array.getElem?_modify, if_true]
    cases hx : X.heap[q]? with
    | none => simp
    | some ob => cases ob <;> simp [ho.symm]
  · exact World.cell?_of_block (Below.heap_setCell X _ u q (by simpa using h))
theorem cell_set4 {X : World} {p q o : Nat} {v u0 u1 u2 u3 : Value} (h : X.cell? ⟨q, o, none⟩ = some v) (hne : q ≠ p ∨ 4 ≤ o) : ((((X.setCell ⟨p, 0, none⟩ u0).setCell ⟨p, 1, none⟩ u1).setCell ⟨p, 2, none⟩ u2).setCell ⟨p, 3, none⟩ u3).cell? ⟨q, o, none⟩ = some v := by
  rw [cell_setx (by rcases hne with h | h; exact .inl h; exact .inr (by omega)), cell_setx (by rcases hne with h | h; exact .inl h; exact .inr (by omega)), cell_setx (by rcases hne with h | h; exact .inl h; exact .inr (by omega)), cell_setx (by rcases hne with h | h; exact .inl h; exact .inr (by omega))]
  exact h
theorem set4_6 {X : World} {p q r o1 o2 o3 o4 : Nat} {a b c0 c1 c2 c3 u0 u1 u2 u3 : Value} {n : Nat} (hq : q ≠ p) (hr : r ≠ p) (h : X.cell? ⟨p, 10, none⟩ = some a ∧ X.cell? ⟨r, n, none⟩ = some b ∧ X.cell? ⟨q, o1, none⟩ = some c0 ∧ X.cell? ⟨q, o2, none⟩ = some c1 ∧ X.cell? ⟨q, o3, none⟩ = some c2 ∧ X.cell? ⟨q, o4, none⟩ = some c3) :
    let Y := ((((X.setCell ⟨p, 0, none⟩ u0).setCell ⟨p, 1, none⟩ u1).setCell ⟨p, 2, none⟩ u2).setCell ⟨p, 3, none⟩ u3); Y.cell? ⟨p, 10, none⟩ = some a ∧ Y.cell? ⟨r, n, none⟩ = some b ∧ Y.cell? ⟨q, o1, none⟩ = some c0 ∧ Y.cell? ⟨q, o2, none⟩ = some c1 ∧ Y.cell? ⟨q, o3, none⟩ = some c2 ∧ Y.cell? ⟨q, o4, none⟩ = some c3 :=
  ⟨cell_set4 h.1 (.inr (by omega)), cell_set4 h.2.1 (.inl hr), cell_set4 h.2.2.1 (.inl hq), cell_set4 h.2.2.2.1 (.inl hq), cell_set4 h.2.2.2.2.1 (.inl hq), cell_set4 h.2.2.2.2.2 (.inl hq)⟩
theorem set10_5 {X : World} {p : Nat} {c4 c5 c6 c7 c8 u : Value} (h : X.cell? ⟨p, 4, none⟩ = some c4 ∧ X.cell? ⟨p, 5, none⟩ = some c5 ∧ X.cell? ⟨p, 6, none⟩ = some c6 ∧ X.cell? ⟨p, 7, none⟩ = some c7 ∧ X.cell? ⟨p, 8, none⟩ = some c8) :
    let Y := X.setCell ⟨p, 10, none⟩ u; Y.cell? ⟨p, 4, none⟩ = some c4 ∧ Y.cell? ⟨p, 5, none⟩ = some c5 ∧ Y.cell? ⟨p, 6, none⟩ = some c6 ∧ Y.cell? ⟨p, 7, none⟩ = some c7 ∧ Y.cell? ⟨p, 8, none⟩ = some c8 :=
  ⟨(cell_setx (.inr (by decide))).trans h.1, (cell_setx (.inr (by decide))).trans h.2.1, (cell_setx (.inr (by decide))).trans h.2.2.1, (cell_setx (.inr (by decide))).trans h.2.2.2.1, (cell_setx (.inr (by decide))).trans h.2.2.2.2⟩
theorem set9_5 {X : World} {p q : Nat} {c0 c1 c2 c3 c4 u : Value} (hne : q ≠ p) (h : X.cell? ⟨q, 0, none⟩ = some c0 ∧ X.cell? ⟨q, 1, none⟩ = some c1 ∧ X.cell? ⟨q, 2, none⟩ = some c2 ∧ X.cell? ⟨q, 3, none⟩ = some c3 ∧ X.cell? ⟨q, 4, none⟩ = some c4) :
    let Y := X.setCell ⟨p, 9, none⟩ u; Y.cell? ⟨q, 0, none⟩ = some c0 ∧ Y.cell? ⟨q, 1, none⟩ = some c1 ∧ Y.cell? ⟨q, 2, none⟩ = some c2 ∧ Y.cell? ⟨q, 3, none⟩ = some c3 ∧ Y.cell? ⟨q, 4, none⟩ = some c4 :=
  ⟨(cell_setx (.inl hne)).trans h.1, (cell_setx (.inl hne)).trans h.2.1, (cell_setx (.inl hne)).trans h.2.2.1, (cell_setx (.inl hne)).trans h.2.2.2.1, (cell_setx (.inl hne)).trans h.2.2.2.2⟩
def ldQ : Op := Op.load 31 (.tmp 93)
theorem ldQ_eq : Op.load 31 (.tmp 93) = ldQ := rfl
attribute [local go_sem] ldQ
def ldP : Op := Op.load 58 (.tmp 129)
theorem ldP_eq : Op.load 58 (.tmp 129) = ldP := rfl
attribute [local go_sem] ldP
def ldS : Op := Op.load 57 (.tmp 21)
theorem ldS_eq : Op.load 57 (.tmp 21) = ldS := rfl
attribute [local go_sem] ldS
theorem infoRp : (Tryd.prog.info? 50).map (fun i => (i.size, i.bytes)) = some (4, 32) := by kernel_rfl
theorem infoRpz : ((Tryd.prog.info? 50).bind (·.zero)).map (fun z => z.cells) = some #[.int .i64 0, .int .i64 0, .int .i64 0, .bool false] := by kernel_rfl
theorem rp_parts : ∃ i z, Tryd.prog.info? 50 = some i ∧ i.zero = some z ∧ i.size = 4 ∧ i.bytes = 32 ∧ z.cells.size = 4 := by
  obtain ⟨i, hi, h1⟩ := Option.map_eq_some_iff.1 infoRp
  have h2 := infoRpz
  rw [hi] at h2
  obtain ⟨z, hz, h3⟩ := Option.map_eq_some_iff.1 h2
  simp only [Prod.mk.injEq] at h1
  exact ⟨i, z, hi, hz, h1.1, h1.2, by rw [h3]; rfl⟩
theorem infoU8 : (Tryd.prog.info? 5).map (fun i => i.size) = some 1 := by kernel_rfl
set_option maxRecDepth 100000 in
set_option maxHeartbeats 8000000 in
theorem act_any (key : Nat) (m : WM) (n : Nat) (p : Nat) (x : AC) (ad : Option Addr) (cd : Nat) (K D K2 : Nat → Prop) (w : World) (hw : WRx K D w p m) (hK : ∀ b, w.heap.size ≤ b → K b ∧ D b) (hx : AcOk x) (hs : Sl K2 w (.slice ad x.b.length cd) (u8s x.b)) (hi : WInv key m n) (ho : WOk m n) (hn : n ≤ 120) :
    Calls Tryd.prog 31 #[.pointer (some ⟨p, 0, none⟩), .agg #[.int .i64 x.kd, .int .i64 x.n, .int .i64 x.m, .slice ad x.b.length cd]] w fun e w' => e = .returned (.tuple #[]) ∧ WRx K D w' p (actM m x) ∧ Keeps K w w' := by
  obtain ⟨sa, sc, aa, ac, fa, fc, ra, rc, ga, gc, hw⟩ := hw
  have HW := hid hw
  have HKF := hid hK
  have HML := hid (WR.lt hw)
  have HSX := hid (hs.mono (K' := fun b => b < w.heap.size) (fun b h _ => h))
  have HI := hid hi; have HO := hid ho; have HXO := hid hx
  have hpl := blk_lt hw.blk
  clear hw hs hi ho hK hx
  obtain ⟨M9, hM9⟩ : ∃ y, actM m x = y := ⟨_, rfl⟩
  have HM9 := hid hM9
  rw [hM9]
  clear hM9
  obtain ⟨xl, hxl⟩ : ∃ n, x.b.length = n := ⟨_, rfl⟩
  have HXL := hid hxl
  rw [hxl] at HSX ⊢
  clear hxl
  obtain ⟨⟨bs, a, ⟨k2, i2⟩⟩, ⟨nx, fs, lk, ⟨rk, ri⟩⟩, FSq, RP, GT⟩ := m
  obtain ⟨i0, hii, hz0, hz1, hz2⟩ := bd_parts
  obtain ⟨iF, zF, hFi, hF0, hF1, hF2, hF3⟩ := fr_parts
  obtain ⟨iR, zR, hRi, hR0, hR1, hR2, hR3⟩ := rp_parts
  obtain ⟨iU, hiU, hU1⟩ := Option.map_eq_some_iff.1 infoU8
  have hin := HI.out
  have hnx0 : 0 ≤ nx := hin.r.n0
  have hnx1 : nx ≤ bs.length := hin.r.n1
  have ha0 : 0 ≤ a := hin.a0
  have ha1 : a ≤ nx := hin.a1
  have hbn : bs.length ≤ n := hin.bn
  have hfx : FSq.length ≤ n := hin.fn
  have hrpx : RP.length ≤ n := hin.rn
  have hi20 : 0 ≤ i2 := hin.l.1
  have hi21 : i2 ≤ n := hin.li
  have hri0 : 0 ≤ ri := hin.r.kd.1
  have hri1 : ri ≤ i2 := hin.r.ki
  have HLOK : Hd ((⟨k2, i2⟩ : Ld).ok) := hid (HO.out.lok hin (by omega))
  clear hin
  have HBP := hid HW.out.blk
  have HSB := hid HW.out.sb
  have HAH := hid HW.out.ah
  simp only [] at HBP HSB HAH
  obtain ⟨sn, hsn⟩ : ∃ n, bs.length = n := ⟨_, rfl⟩
  have N_sn := hid hsn
  rw [hsn] at HBP HSB
  rw [hsn] at hnx1 hbn
  clear hsn
  obtain ⟨fn, hfn⟩ : ∃ n, fs.length = n := ⟨_, rfl⟩
  have N_fn := hid hfn
  rw [hfn] at HBP HAH
  clear hfn
  obtain ⟨f2n, hf2n⟩ : ∃ n, FSq.length = n := ⟨_, rfl⟩
  have N_f2n := hid hf2n
  rw [hf2n] at HBP hfx
  clear hf2n
  obtain ⟨rpn, hrpn⟩ : ∃ n, RP.length = n := ⟨_, rfl⟩
  have N_rpn := hid hrpn
  rw [hrpn] at HBP hrpx
  clear hrpn
  obtain ⟨gn, hgn⟩ : ∃ n, GT.length = n := ⟨_, rfl⟩
  have N_gn := hid hgn
  rw [hgn] at HBP
  clear hgn
  go_enter Tryd.func31, Tryd.ntmps31
  go_upto_region 1 with fail
  generalize hW : World.alloc w _ = W1
  have KS : Hd (Keeps (fun _ => False) w W1) := hid (by rw [← hW]; exact (Keeps.alloc (Keeps.refl (fun _ => False) w) _))
  have HBP' : Hd (Blk W1 p #[(.slice sa sn sc), (.int .i64 a), (.int .u64 (k2 : Int)), (.int .i64 i2), (.int .i64 nx), (.slice aa fn ac), (.bool lk), (.int .u64 (rk : Int)), (.int .i64 ri), (.slice fa f2n fc), (.slice ra rpn rc), (.slice ga gn gc)] 60) := hid (by rw [← hW]; exact (blk_alloc HBP.out _))
  have HW' : Hd (WR K D W1 p ⟨⟨bs, a, ⟨k2, i2⟩⟩, ⟨nx, fs, lk, ⟨rk, ri⟩⟩, FSq, RP, GT⟩ sa sc aa ac fa fc ra rc ga gc) := hid (HW.out.keep KS.out (fun _ _ _ h => h))
  have HSX' : Hd (Sl (fun b => b < w.heap.size) W1 (.slice ad xl cd) (u8s x.b)) := hid (HSX.out.keep KS.out (fun _ _ _ h => h))
  have HSB' : Hd (Bds (fun b => D b ∧ ¬ Mine p fa ra ga b) W1 (.slice sa sn sc) bs) := hid (HSB.out.keep KS.out (fun _ _ _ h => h))
  have BA : Hd (Blk W1 w.heap.size #[(.int .i64 x.kd), (.int .i64 x.n), (.int .i64 x.m), (.slice ad xl cd)] 39) := hid (by rw [← hW]; exact (blk_new _ _ _))
  clear HBP HW HSX HSB
  have HBP := HBP'
  clear HBP'
  have HW := HW'
  clear HW'
  have HSX := HSX'
  clear HSX'
  have HSB := HSB'
  clear HSB'
  have HK : Hd (Keeps (fun _ => False) w W1) := hid KS.out
  have z_W1 : w.heap.size + 1 ≤ W1.heap.size := by rw [← hW]; simp
  clear hW KS
  obtain ⟨kk, hkk⟩ : ∃ k, around x.kd 6 = k := ⟨_, rfl⟩
  have HKK := hid hkk
  have hkb := around_b x.kd (show (1 : Int) ≤ 6 by omega)
  rw [hkk] at hkb
  clear hkk
  obtain ⟨ar, har⟩ : ∃ k, around x.n 18 = k := ⟨_, rfl⟩
  have HAR := hid har
  have hab := around_b x.n (show (1 : Int) ≤ 18 by omega)
  rw [har] at hab
  clear har
  have o_BA_0 : W1.cell? ⟨w.heap.size, 0, none⟩ = some ((.int .i64 x.kd)) := blk_cell BA.out 0
  go_wp2_with fail
  refine (Around_any x.kd 6 _ HXO.out.kd.1 HXO.out.kd.2 (by decide) (by decide)).mono ?_
  rw [HKK.out]
  rintro e wx ⟨rfl, rfl⟩
  clear o_BA_0
  by_cases h0 : kk = 0
  · subst h0
    have q9 : M9 = ⟨⟨bs ++ [x.b.take 20], a, ⟨k2, i2⟩⟩, ⟨nx, fs, lk, ⟨rk, ri⟩⟩, FSq, RP, GT⟩ := HM9.out.symm.trans (actM_q HKK.out)
    have HQ9 := hid q9
    clear q9
    obtain ⟨xm, hxm⟩ : ∃ u, min xl 20 = u := ⟨_, rfl⟩
    obtain ⟨a5, c5, hcut, hrow⟩ := run_cut_to (P := Tryd.prog) (t := 22) Tryd.underlying22 hiU hU1 (sl_row HSX.out (by rw [u8s_length]; exact HXL.out)) (hh := min (xl : Int) 20) xm (by omega) (by omega)
    have HR5 : Hd (Sl (fun b => b < w.heap.size) W1 (.slice a5 xm c5) (u8s (x.b.take 20))) := hid (by have h := row_sl hrow (by rw [Nat.mul_one, List.length_take, u8s_length, HXL.out]; omega); rw [Nat.mul_one] at h; rw [show x.b.take 20 = x.b.take xm by rw [← hxm, ← HXL.out, take_min]]; simpa [u8s, List.map_take] using h)
    have HXM : Hd ((x.b.take 20).length = xm) := hid (by rw [List.length_take, HXL.out]; omega)
    have hxm20 : xm ≤ 20 := by omega
    clear hrow hxm
    have HQ : Hd (∀ X, Keeps (fun _ => False) W1 X → Calls Tryd.prog 32 #[.agg #[.slice sa sn sc, .int .i64 a, .int .u64 (k2 : Int), .int .i64 i2], .slice a5 xm c5] X fun e w' => ∃ a2 c2, e = .returned (.tuple #[.agg #[.slice a2 (sn + 1) c2, .int .i64 a, .int .u64 (k2 : Int), .int .i64 i2], .int .i64 0]) ∧ Bds (fun b => X.heap.size ≤ b) w' (.slice a2 (sn + 1) c2) (bs ++ [x.b.take 20]) ∧ Keeps (fun _ => False) X w') := hid (fun X hx => by have h := Queue_ok bs sa sc a k2 i2 (x.b.take 20) _ _ a5 c5 X (by rw [N_sn.out]; exact HSB.out.keep hx (fun _ _ _ h => h)) (by rw [N_sn.out]; omega) HI.out.bl (by rw [HXM.out]; omega) (by rw [HXM.out]; exact HR5.out.keep hx (fun _ _ _ h => h)); rw [N_sn.out, HXM.out] at h; exact h)
    go_upto_region 5 with fail
    go_cut [5, 4] from 43 to 56 (fun u5 u4 wx => ∃ (a2 : Option Addr), ∃ (c2 : Nat), u5 = (.int .i64 0) ∧ ∃ bx, u4 = .pointer (some ⟨bx, 0, none⟩) ∧ W1.heap.size ≤ bx ∧ Hd (Blk wx bx #[(.slice a2 (sn + 1) c2), (.int .i64 a), (.int .u64 (k2 : Int)), (.int .i64 i2)] 57) ∧ Hd (Bds (fun b => W1.heap.size ≤ b) wx (.slice a2 (sn + 1) c2) (bs ++ [x.b.take 20])) ∧ Hd (Keeps (fun _ => False) W1 wx))
    case first =>
      have KC : Hd (Keeps (fun _ => False) W1 W1) := hid (Keeps.refl _ _)
      have HSS : Hd (∀ w', Keeps (fun _ => False) W1 w' → (w'.cell? ⟨p, 0, none⟩ = some ((.slice sa sn sc)) ∧ w'.cell? ⟨p, 1, none⟩ = some ((.int .i64 a)) ∧ w'.cell? ⟨p, 2, none⟩ = some ((.int .u64 (k2 : Int))) ∧ w'.cell? ⟨p, 3, none⟩ = some ((.int .i64 i2)) ∧ w'.cell? ⟨w.heap.size, 3, none⟩ = some ((.slice ad xl cd)))) := hid (fun w' hk => ⟨blk_cell (blk_keep HBP.out hk (fun h => h)) 0, blk_cell (blk_keep HBP.out hk (fun h => h)) 1, blk_cell (blk_keep HBP.out hk (fun h => h)) 2, blk_cell (blk_keep HBP.out hk (fun h => h)) 3, blk_cell (blk_keep BA.out hk (fun h => h)) 3⟩)
      go_region_held (fun w' => w'.cell? ⟨p, 0, none⟩ = some ((.slice sa sn sc)) ∧ w'.cell? ⟨p, 1, none⟩ = some ((.int .i64 a)) ∧ w'.cell? ⟨p, 2, none⟩ = some ((.int .u64 (k2 : Int))) ∧ w'.cell? ⟨p, 3, none⟩ = some ((.int .i64 i2)) ∧ w'.cell? ⟨w.heap.size, 3, none⟩ = some ((.slice ad xl cd))) (exact HSS.out _ (by repeat (first | (with_reducible refine Keeps.setCell (S := fun _ => False) ?_ (.inl (by first | (with_reducible rfl) | (simp <;> fail) | fail)) _) | (with_reducible apply Keeps.drewN) | (with_reducible apply Keeps.drew) | (with_reducible apply Keeps.alloc) | (refine Keeps.setCell (S := fun _ => False) ?_ (.inr (by first | exact Nat.le_refl _ | omega | (simp; omega) | fail)) _) | (with_reducible exact KC.out) | (with_reducible exact Keeps.refl _ _) | (with_reducible exact KC.out.mono (fun _ _ h => h.elim)))))
        (first
        | (go_at_call 32; (refine (HQ.out _ (by repeat (first | (with_reducible exact KC.out) | (with_reducible exact Keeps.refl _ _) | (with_reducible apply Keeps.drewN) | (with_reducible apply Keeps.drew) | (with_reducible apply Keeps.alloc)))).mono ?_); rintro e wy0 ⟨a2, c2, rfl, hbd, hk⟩; (try (replace LNB := hid (Keeps.trans (S := fun _ => False) (by repeat (first | (with_reducible exact LNB.out) | (with_reducible exact Keeps.refl _ _) | (with_reducible apply Keeps.drewN) | (with_reducible apply Keeps.drew) | (with_reducible apply Keeps.alloc))) hk))); (first | (have HNBX := HNB; clear HNBX) | (have HNB : Hd (∀ Vz, Keeps (fun _ => False) wy0 Vz → Blk Vz W1.heap.size #[(.slice none 0 0), (.int .i64 0), (.int .u64 0), (.int .i64 0)] 57) := hid (fun Vz hv => blk_keep (blk_keep (by (repeat (first | (with_reducible apply blk_drewN) | (with_reducible apply blk_drew) | (with_reducible refine blk_new' _ _ _ _ ?_) | (with_reducible apply blk_alloc))); (first | (with_reducible rfl) | (simp only [World.size_alloc, World.size_drew] <;> fail) | (simp <;> fail))) hk (fun h => h)) hv (fun h => h)); have LNB : Hd (Keeps (fun _ => False) wy0 wy0) := hid (Keeps.refl _ _); have hnbx : W1.heap.size ≤ W1.heap.size := by first | exact Nat.le_refl _ | omega | fail) | skip); (try (have nF0 := blk_cell (HNB.out _ LNB.out) 0; have nG0 := blk_free (HNB.out _ LNB.out) 0; have nF1 := blk_cell (HNB.out _ LNB.out) 1; have nG1 := blk_free (HNB.out _ LNB.out) 1; have nF2 := blk_cell (HNB.out _ LNB.out) 2; have nG2 := blk_free (HNB.out _ LNB.out) 2; have nF3 := blk_cell (HNB.out _ LNB.out) 3; have nG3 := blk_free (HNB.out _ LNB.out) 3)); have KC2 : Hd (Keeps (fun _ => False) W1 wy0) := hid (Keeps.trans (S := fun _ => False) (by repeat (first | (with_reducible exact KC.out) | (with_reducible exact Keeps.refl _ _) | (with_reducible apply Keeps.drewN) | (with_reducible apply Keeps.drew) | (with_reducible apply Keeps.alloc))) hk); have zc := KC.out.size; have zk := hk.size; (try simp at zk); have HBD := hid (bds_after hbd (n := W1.heap.size) (by first | exact Nat.le_refl _ | (simp; done) | (simp; omega) | fail)); clear hbd; replace KC := KC2; clear KC2; replace hk := hid hk))
      all_goals
        go_wp2_with fail
        go_meet
        exact ⟨a2, c2, rfl, _, rfl, (by first | exact Nat.le_refl _ | omega | (simp <;> fail) | (simp; omega) | fail), hid (by repeat (first | (with_reducible exact HNB.out _ LNB.out) | (with_reducible refine blkset4 (c0 := (.slice none 0 0)) (c1 := (.int .i64 0)) (c2 := (.int .u64 0)) (c3 := (.int .i64 0)) ?_) | (with_reducible refine blk_new' _ _ _ _ (by first | (with_reducible rfl) | (simp only [World.size_alloc, World.size_drew] <;> fail) | (simp <;> fail) | (simp; omega) | fail)) | (with_reducible refine blk_other ?_ (by first | omega | (simp only [World.size_alloc, World.size_drew]; omega) | fail) _ _) | (with_reducible apply blk_drewN) | (with_reducible apply blk_drew) | (with_reducible refine blk_alloc ?_ _))), hid (HBD.out _ (by repeat (first | (with_reducible exact Keeps.refl _ _) | (with_reducible apply Keeps.drewN) | (with_reducible apply Keeps.drew) | (with_reducible apply Keeps.alloc) | (refine Keeps.setCell ?_ (by first | exact .inr (Nat.le_refl _) | exact .inr (by simp; omega) | exact .inl ⟨by first | exact Nat.le_refl _ | omega | (simp; omega) | fail, by first | omega | (simp <;> fail) | (simp; omega) | fail⟩ | fail) _)))), hid (by repeat (first | (with_reducible refine Keeps.setCell (S := fun _ => False) ?_ (.inl (by first | (with_reducible rfl) | (simp <;> fail) | fail)) _) | (with_reducible apply Keeps.drewN) | (with_reducible apply Keeps.drew) | (with_reducible apply Keeps.alloc) | (refine Keeps.setCell (S := fun _ => False) ?_ (.inr (by first | exact Nat.le_refl _ | omega | (simp; omega) | fail)) _) | (with_reducible exact KC.out) | (with_reducible exact Keeps.refl _ _) | (with_reducible exact KC.out.mono (fun _ _ h => h.elim))))⟩
    case rest =>
      obtain ⟨a2, c2, rfl, b_S, rfl, hb_S, B_S, M_0, hk⟩ := hcut
      replace hk := hk.out
      generalize wc = W2 at *
      have HBP' : Hd (Blk W2 p #[(.slice sa sn sc), (.int .i64 a), (.int .u64 (k2 : Int)), (.int .i64 i2), (.int .i64 nx), (.slice aa fn ac), (.bool lk), (.int .u64 (rk : Int)), (.int .i64 ri), (.slice fa f2n fc), (.slice ra rpn rc), (.slice ga gn gc)] 60) := hid (blk_keep HBP.out hk (fun h => by exact h))
      have HW' : Hd (WR K D W2 p ⟨⟨bs, a, ⟨k2, i2⟩⟩, ⟨nx, fs, lk, ⟨rk, ri⟩⟩, FSq, RP, GT⟩ sa sc aa ac fa fc ra rc ga gc) := hid (HW.out.keep hk (fun _ _ _ h => h))
      have HSX' : Hd (Sl (fun b => b < w.heap.size) W2 (.slice ad xl cd) (u8s x.b)) := hid (HSX.out.keep hk (fun _ _ _ h => h))
      have HSB' : Hd (Bds (fun b => D b ∧ ¬ Mine p fa ra ga b) W2 (.slice sa sn sc) bs) := hid (HSB.out.keep hk (fun _ _ _ h => h))
      have BA' : Hd (Blk W2 w.heap.size #[(.int .i64 x.kd), (.int .i64 x.n), (.int .i64 x.m), (.slice ad xl cd)] 39) := hid (blk_keep BA.out hk (fun h => by exact h))
      clear HBP HW HSX HSB BA
      have HBP := HBP'
      clear HBP'
      have HW := HW'
      clear HW'
      have HSX := HSX'
      clear HSX'
      have HSB := HSB'
      clear HSB'
      have BA := BA'
      clear BA'
      have HK' : Hd (Keeps (fun _ => False) w W2) := hid (HK.out.trans hk)
      clear HK
      have HK := HK'
      clear HK'
      have z_W2 := hk.size
      clear hk
      have lt_S := blk_lt B_S.out
      clear HQ hcut
      have zp := blk_lt HBP.out
      have nePS : b_S ≠ p := by omega
      have o_HBP_0 : W2.cell? ⟨p, 0, none⟩ = some ((.slice sa sn sc)) := blk_cell HBP.out 0
      have o_HBP_1 : W2.cell? ⟨p, 1, none⟩ = some ((.int .i64 a)) := blk_cell HBP.out 1
      have o_HBP_2 : W2.cell? ⟨p, 2, none⟩ = some ((.int .u64 (k2 : Int))) := blk_cell HBP.out 2
      have o_HBP_3 : W2.cell? ⟨p, 3, none⟩ = some ((.int .i64 i2)) := blk_cell HBP.out 3
      have o_HBP_4 : W2.cell? ⟨p, 4, none⟩ = some ((.int .i64 nx)) := blk_cell HBP.out 4
      have o_HBP_5 : W2.cell? ⟨p, 5, none⟩ = some ((.slice aa fn ac)) := blk_cell HBP.out 5
      have o_HBP_6 : W2.cell? ⟨p, 6, none⟩ = some ((.bool lk)) := blk_cell HBP.out 6
      have o_HBP_7 : W2.cell? ⟨p, 7, none⟩ = some ((.int .u64 (rk : Int))) := blk_cell HBP.out 7
      have o_HBP_8 : W2.cell? ⟨p, 8, none⟩ = some ((.int .i64 ri)) := blk_cell HBP.out 8
      have o_HBP_9 : W2.cell? ⟨p, 9, none⟩ = some ((.slice fa f2n fc)) := blk_cell HBP.out 9
      have o_HBP_10 : W2.cell? ⟨p, 10, none⟩ = some ((.slice ra rpn rc)) := blk_cell HBP.out 10
      have o_HBP_11 : W2.cell? ⟨p, 11, none⟩ = some ((.slice ga gn gc)) := blk_cell HBP.out 11
      have f_HBP_0 : W2.frozen? ⟨p, 0, none⟩ = false := blk_free HBP.out 0
      have f_HBP_1 : W2.frozen? ⟨p, 1, none⟩ = false := blk_free HBP.out 1
      have f_HBP_2 : W2.frozen? ⟨p, 2, none⟩ = false := blk_free HBP.out 2
      have f_HBP_3 : W2.frozen? ⟨p, 3, none⟩ = false := blk_free HBP.out 3
      have f_HBP_4 : W2.frozen? ⟨p, 4, none⟩ = false := blk_free HBP.out 4
      have f_HBP_5 : W2.frozen? ⟨p, 5, none⟩ = false := blk_free HBP.out 5
      have f_HBP_6 : W2.frozen? ⟨p, 6, none⟩ = false := blk_free HBP.out 6
      have f_HBP_7 : W2.frozen? ⟨p, 7, none⟩ = false := blk_free HBP.out 7
      have f_HBP_8 : W2.frozen? ⟨p, 8, none⟩ = false := blk_free HBP.out 8
      have f_HBP_9 : W2.frozen? ⟨p, 9, none⟩ = false := blk_free HBP.out 9
      have f_HBP_10 : W2.frozen? ⟨p, 10, none⟩ = false := blk_free HBP.out 10
      have f_HBP_11 : W2.frozen? ⟨p, 11, none⟩ = false := blk_free HBP.out 11
      have o_B_S_0 : W2.cell? ⟨b_S, 0, none⟩ = some ((.slice a2 (sn + 1) c2)) := blk_cell B_S.out 0
      have o_B_S_1 : W2.cell? ⟨b_S, 1, none⟩ = some ((.int .i64 a)) := blk_cell B_S.out 1
      have o_B_S_2 : W2.cell? ⟨b_S, 2, none⟩ = some ((.int .u64 (k2 : Int))) := blk_cell B_S.out 2
      have o_B_S_3 : W2.cell? ⟨b_S, 3, none⟩ = some ((.int .i64 i2)) := blk_cell B_S.out 3
      go_wp2
      go_end0
      clear o_HBP_0 o_HBP_1 o_HBP_2 o_HBP_3 o_HBP_4 o_HBP_5 o_HBP_6 o_HBP_7 o_HBP_8 o_HBP_9 o_HBP_10 o_HBP_11 f_HBP_0 f_HBP_1 f_HBP_2 f_HBP_3 f_HBP_4 f_HBP_5 f_HBP_6 f_HBP_7 f_HBP_8 f_HBP_9 f_HBP_10 f_HBP_11 o_B_S_0 o_B_S_1 o_B_S_2 o_B_S_3
      have h := HW.out.setS (s := ⟨bs ++ [x.b.take 20], a, ⟨k2, i2⟩⟩) (sa2 := a2) (sc2 := c2) (by simp only [List.length_append, List.length_singleton, N_sn.out]; exact M_0.out.mono (fun b _ h => ⟨(HKF.out b (by omega)).2, fun e => by have := HML.out b e; omega⟩))
      simp only [List.length_append, List.length_singleton, N_sn.out] at h
      rw [HQ9.out]
      refine ⟨rfl, ⟨_, _, _, _, _, _, _, _, _, _, h⟩, ?_⟩
      exact (HK.out.mono (T := K) (fun _ _ h => h.elim)).trans' (keep4' _ _ _ _ _ _ _ _ _ _) (fun i hi h => by rw [h]; exact HW.out.k p (.inl rfl))
  · have e0 : (kk == 0) = false := by simp [h0]
    by_cases h1 : kk = 1 ∨ kk = 2
    · obtain ⟨b1, hb1⟩ : ∃ b, (kk == 1) = b := ⟨_, rfl⟩
      go_upto_if 63 with (fail)
      go_cut [63] from 63 to 65 (fun u63 wx => u63 = .bool true ∧ W1 = wx)
      case first =>
        cases b1 with
        | true =>
          go_wp2_with fail
          go_meet
          exact ⟨rfl, rfl⟩
        | false =>
          have hk2 : kk = 2 := by have h : ¬ kk = 1 := by simpa using hb1
                                  omega
          subst hk2
          go_wp2_with fail
          go_meet
          exact ⟨rfl, rfl⟩
      case rest =>
      obtain ⟨rfl, rfl⟩ := hcut
      clear hb1
      have q9 : (if (emitM ⟨bs, a, ⟨k2, i2⟩⟩ (a + ar)).2.2 = 0 then ⟨(emitM ⟨bs, a, ⟨k2, i2⟩⟩ (a + ar)).2.1, ⟨nx, fs, lk, ⟨rk, ri⟩⟩, FSq ++ [(emitM ⟨bs, a, ⟨k2, i2⟩⟩ (a + ar)).1], RP, GT⟩ else ⟨⟨bs, a, ⟨k2, i2⟩⟩, ⟨nx, fs, lk, ⟨rk, ri⟩⟩, FSq, RP, GT⟩) = M9 := by rw [← HAR.out]; exact (actM_e (by rw [HKK.out]; omega)).symm.trans HM9.out
      have HQ9 := hid q9
      clear q9
      obtain ⟨⟨F, ⟨bs3, a3, ⟨k3, i3⟩⟩, er⟩, hE⟩ : ∃ y, emitM ⟨bs, a, ⟨k2, i2⟩⟩ (a + ar) = y := ⟨_, rfl⟩
      have HE := hid hE
      rw [hE] at HQ9
      clear hE
      simp only [] at HQ9
      obtain ⟨fl, hfl⟩ : ∃ n, F.b.length = n := ⟨_, rfl⟩
      have HFL := hid hfl
      clear hfl
      obtain ⟨sn3, hsn3⟩ : ∃ n, bs3.length = n := ⟨_, rfl⟩
      have N_sn3 := hid hsn3
      clear hsn3
      have hsum : IntKind.i64.wrap (a + ar) = a + ar := IntWalk.i64_in _ (by omega)
      have HAA : Hd (∀ X, Calls Tryd.prog 22 #[.int .i64 x.n, .int .i64 18] X fun e w' => e = .returned (.int .i64 ar) ∧ Keeps (fun _ => False) X w') := hid (fun X => by have h := around_K x.n 18 X HXO.out.n.1 HXO.out.n.2 (by decide) (by decide); rw [HAR.out] at h; exact h)
      have HEM : Hd (∀ X, Keeps (fun _ => False) W1 X → Calls Tryd.prog 39 #[.agg #[.slice sa sn sc, .int .i64 a, .int .u64 (k2 : Int), .int .i64 i2], .int .i64 (a + ar)] X fun e w' => ∃ a1 c1 a2 c2, e = .returned (.tuple #[.agg #[.int .i64 F.q, .int .i64 F.k, .bool F.u, .slice a1 fl c1, .int .u64 (F.t : Int)], .agg #[.slice a2 sn3 c2, .int .i64 a3, .int .u64 (k3 : Int), .int .i64 i3], .int .i64 er]) ∧ Sl (fun b => X.heap.size ≤ b) w' (.slice a1 fl c1) (u8s F.b) ∧ Bds (fun b => X.heap.size ≤ b) w' (.slice a2 sn3 c2) bs3 ∧ Keeps (fun _ => False) X w') := hid (fun X hx => by have h := Emit_all ⟨bs, a, ⟨k2, i2⟩⟩ sa sc (a + ar) _ X (by simp only [N_sn.out]; exact HSB.out.keep hx (fun _ _ _ h => h)) (by simp only [N_sn.out]; omega) (fun y hy => ⟨HI.out.bl y hy, HO.out.b y hy⟩) HLOK.out ha0 (by simp only []; omega); unfold EmitAll at h; rw [HE.out] at h; simp only [N_sn.out, HFL.out, N_sn3.out] at h; exact h)
      go_upto_region 10 with fail
      go_cut [8, 6, 7] from 66 to 83 (fun u8 u6 u7 wx => ∃ (a1 : Option Addr) (c1 : Nat) (a2 : Option Addr) (c2 : Nat), u8 = .int .i64 er ∧ ∃ bF, u6 = .pointer (some ⟨bF, 0, none⟩) ∧ ∃ bS, u7 = .pointer (some ⟨bS, 0, none⟩) ∧ W1.heap.size ≤ bF ∧ W1.heap.size ≤ bS ∧ Hd (Blk wx bF #[(.int .i64 F.q), (.int .i64 F.k), (.bool F.u), (.slice a1 fl c1), (.int .u64 (F.t : Int))] 25) ∧ Hd (Blk wx bS #[(.slice a2 sn3 c2), (.int .i64 a3), (.int .u64 (k3 : Int)), (.int .i64 i3)] 57) ∧ Hd (Sl (fun b => W1.heap.size ≤ b) wx (.slice a1 fl c1) (u8s F.b)) ∧ Hd (Bds (fun b => W1.heap.size ≤ b) wx (.slice a2 sn3 c2) bs3) ∧ Hd (Keeps (fun _ => False) W1 wx))
      case first =>
        refine wp_two (C := emCfg [13, 14, 15, 16, 18, 19, 20, 21] 80 66 81 82 6 7 [.pointer (some ⟨p, 0, none⟩), .pointer (some ⟨p, 0, none⟩), .pointer (some ⟨p, 0, none⟩), .agg #[.slice sa sn sc, .int .i64 a, .int .u64 (k2 : Int), .int .i64 i2], .pointer (some ⟨p, 0, none⟩), .pointer (some ⟨p, 0, none⟩), .pointer (some ⟨p, 0, none⟩), .pointer (some ⟨p, 1, none⟩), .int .i64 a, .pointer (some ⟨w.heap.size, 1, none⟩), .int .i64 x.n, .int .i64 ar, .int .i64 (a + ar), undef, undef, undef, undef, .int .i64 er, undef, undef, undef, undef, .int .i64 er] [.int .i64 er] F ⟨bs3, a3, ⟨k3, i3⟩⟩) (by kernel_rfl) ?H ?HV 13 rfl ?HC ?HE
        case H => exact ⟨by kernel_rfl, uniqB_spec (by kernel_rfl), underB_spec (by kernel_rfl), ⟨_, rfl, rfl⟩, ⟨_, rfl, rfl, rfl, rfl, waitsB_spec (by kernel_rfl)⟩, ⟨_, rfl, rfl, rfl, rfl, waitsB_spec (by kernel_rfl)⟩, ⟨_, rfl, rfl, rfl, rfl, waitsB_spec (by kernel_rfl)⟩, ⟨_, rfl, rfl, rfl, rfl⟩, ⟨_, rfl, rfl, rfl, rfl⟩, ⟨_, rfl, rfl, rfl, rfl, waitsB_spec (by kernel_rfl), waitsB_spec (by kernel_rfl)⟩, ⟨_, rfl, rfl, rfl, rfl, waitsB_spec (by kernel_rfl), waitsB_spec (by kernel_rfl)⟩, emVal (by kernel_rfl), emAll (by kernel_rfl), ⟨rfl, rfl, rfl, rfl, rfl, rfl, rfl, rfl⟩, emNd (by decide), emSem _ _ _ _ _ _ _ _ _ _ _⟩
        case HV =>
          intro i o hv hi aq w' hk hd
          match i, hv, hi with
          | 0, _, hi =>
            have hi1 := hi
            simp only [List.getElem?_cons_succ, List.getElem?_cons_zero, Option.some.injEq] at hi1
            subst hi1
            have e0 : aq.eval (.tmp 0) = .pointer (some ⟨p, 0, none⟩) := (hd.out (by kernel_rfl)).trans rfl
            exact wpOp_ranL hi rfl (v := .pointer (some ⟨p, 0, none⟩)) (w' := w') (by simp only [execOp, e0]; rfl) ⟨rfl, Keeps.refl _ _⟩
          | 1, _, hi =>
            have hi1 := hi
            simp only [List.getElem?_cons_succ, List.getElem?_cons_zero, Option.some.injEq] at hi1
            subst hi1
            have e0 : aq.eval (.tmp 67) = .pointer (some ⟨p, 0, none⟩) := hd.val (j := 0) (by kernel_rfl) rfl rfl rfl
            exact wpOp_ranL hi rfl (v := .pointer (some ⟨p, 0, none⟩)) (w' := w') (by simp only [execOp, e0]; rfl) ⟨rfl, Keeps.refl _ _⟩
          | 2, _, hi =>
            have hi1 := hi
            simp only [List.getElem?_cons_succ, List.getElem?_cons_zero, Option.some.injEq] at hi1
            subst hi1
            have e0 : aq.eval (.tmp 68) = .pointer (some ⟨p, 0, none⟩) := hd.val (j := 1) (by kernel_rfl) rfl rfl rfl
            exact wpOp_ranL hi rfl (v := .pointer (some ⟨p, 0, none⟩)) (w' := w') (by simp only [execOp, e0]; go_simp) ⟨rfl, Keeps.refl _ _⟩
          | 3, _, hi =>
            have hi1 := hi
            simp only [List.getElem?_cons_succ, List.getElem?_cons_zero, Option.some.injEq] at hi1
            subst hi1
            have e0 : aq.eval (.tmp 69) = .pointer (some ⟨p, 0, none⟩) := hd.val (j := 2) (by kernel_rfl) rfl rfl rfl
            have c0 := keep_cell hk (fun h => h) (blk_cell HBP.out 0)
            have c1 := keep_cell hk (fun h => h) (blk_cell HBP.out 1)
            have c2 := keep_cell hk (fun h => h) (blk_cell HBP.out 2)
            have c3 := keep_cell hk (fun h => h) (blk_cell HBP.out 3)
            exact wpOp_ranL hi rfl (v := .agg #[.slice sa sn sc, .int .i64 a, .int .u64 (k2 : Int), .int .i64 i2]) (w' := w') (by simp only [execOp, e0]; go_simp) ⟨rfl, Keeps.refl _ _⟩
          | 4, _, hi =>
            have hi1 := hi
            simp only [List.getElem?_cons_succ, List.getElem?_cons_zero, Option.some.injEq] at hi1
            subst hi1
            have e0 : aq.eval (.tmp 0) = .pointer (some ⟨p, 0, none⟩) := (hd.out (by kernel_rfl)).trans rfl
            exact wpOp_ranL hi rfl (v := .pointer (some ⟨p, 0, none⟩)) (w' := w') (by simp only [execOp, e0]; rfl) ⟨rfl, Keeps.refl _ _⟩
          | 5, _, hi =>
            have hi1 := hi
            simp only [List.getElem?_cons_succ, List.getElem?_cons_zero, Option.some.injEq] at hi1
            subst hi1
            have e0 : aq.eval (.tmp 71) = .pointer (some ⟨p, 0, none⟩) := hd.val (j := 4) (by kernel_rfl) rfl rfl rfl
            exact wpOp_ranL hi rfl (v := .pointer (some ⟨p, 0, none⟩)) (w' := w') (by simp only [execOp, e0]; rfl) ⟨rfl, Keeps.refl _ _⟩
          | 6, _, hi =>
            have hi1 := hi
            simp only [List.getElem?_cons_succ, List.getElem?_cons_zero, Option.some.injEq] at hi1
            subst hi1
            have e0 : aq.eval (.tmp 72) = .pointer (some ⟨p, 0, none⟩) := hd.val (j := 5) (by kernel_rfl) rfl rfl rfl
            exact wpOp_ranL hi rfl (v := .pointer (some ⟨p, 0, none⟩)) (w' := w') (by simp only [execOp, e0]; go_simp) ⟨rfl, Keeps.refl _ _⟩
          | 7, _, hi =>
            have hi1 := hi
            simp only [List.getElem?_cons_succ, List.getElem?_cons_zero, Option.some.injEq] at hi1
            subst hi1
            have e0 : aq.eval (.tmp 73) = .pointer (some ⟨p, 0, none⟩) := hd.val (j := 6) (by kernel_rfl) rfl rfl rfl
            exact wpOp_ranL hi rfl (v := .pointer (some ⟨p, 1, none⟩)) (w' := w') (by simp only [execOp, e0]; go_simp) ⟨rfl, Keeps.refl _ _⟩
          | 8, _, hi =>
            have hi1 := hi
            simp only [List.getElem?_cons_succ, List.getElem?_cons_zero, Option.some.injEq] at hi1
            subst hi1
            have e0 : aq.eval (.tmp 74) = .pointer (some ⟨p, 1, none⟩) := hd.val (j := 7) (by kernel_rfl) rfl rfl rfl
            have c0 := keep_cell hk (fun h => h) (blk_cell HBP.out 1)
            exact wpOp_ranL hi rfl (v := .int .i64 a) (w' := w') (by simp only [execOp, e0]; go_simp) ⟨rfl, Keeps.refl _ _⟩
          | 9, _, hi =>
            have hi1 := hi
            simp only [List.getElem?_cons_succ, List.getElem?_cons_zero, Option.some.injEq] at hi1
            subst hi1
            have e0 : aq.eval (.tmp 3) = .pointer (some ⟨w.heap.size, 0, none⟩) := (hd.out (by kernel_rfl)).trans rfl
            exact wpOp_ranL hi rfl (v := .pointer (some ⟨w.heap.size, 1, none⟩)) (w' := w') (by simp only [execOp, e0]; go_simp) ⟨rfl, Keeps.refl _ _⟩
          | 10, _, hi =>
            have hi1 := hi
            simp only [List.getElem?_cons_succ, List.getElem?_cons_zero, Option.some.injEq] at hi1
            subst hi1
            have e0 : aq.eval (.tmp 76) = .pointer (some ⟨w.heap.size, 1, none⟩) := hd.val (j := 9) (by kernel_rfl) rfl rfl rfl
            have c0 := keep_cell hk (fun h => h) (blk_cell BA.out 1)
            exact wpOp_ranL hi rfl (v := .int .i64 x.n) (w' := w') (by simp only [execOp, e0]; go_simp) ⟨rfl, Keeps.refl _ _⟩
          | 11, _, hi =>
            have hi1 := hi
            simp only [List.getElem?_cons_succ, List.getElem?_cons_zero, Option.some.injEq] at hi1
            subst hi1
            have e0 : aq.eval (.tmp 77) = .int .i64 x.n := hd.val (j := 10) (by kernel_rfl) rfl rfl rfl
            exact wpOp_callL hi rfl (f := 22) (args := #[.int .i64 x.n, .int .i64 18]) (by simp only [execOp_call_go, List.map_toArray, List.map_cons, List.map_nil, e0]; rfl) ((HAA.out _).mono (fun e w2 ⟨he, hk2⟩ => ⟨_, he, rfl, hk2⟩))
          | 12, _, hi =>
            have hi1 := hi
            simp only [List.getElem?_cons_succ, List.getElem?_cons_zero, Option.some.injEq] at hi1
            subst hi1
            have e0 : aq.eval (.tmp 75) = .int .i64 a := hd.val (j := 8) (by kernel_rfl) rfl rfl rfl
            have e1 : aq.eval (.tmp 78) = .int .i64 ar := hd.val (j := 11) (by kernel_rfl) rfl rfl rfl
            exact wpOp_ranL hi rfl (v := .int .i64 (a + ar)) (w' := w') (by simp only [execOp, e0, e1]; go_simp) ⟨rfl, Keeps.refl _ _⟩
          | 13, hv, _ => cases hv
          | 14, hv, _ => cases hv
          | 15, hv, _ => cases hv
          | 16, hv, _ => cases hv
          | 17, _, hi =>
            have hi1 := hi
            simp only [List.getElem?_cons_succ, List.getElem?_cons_zero, Option.some.injEq] at hi1
            subst hi1
            obtain ⟨x0, y0, e0⟩ : ∃ x y, aq.eval (.tmp 66) = .tuple #[x, y, .int .i64 er] := hd.tup (show waitsB _ 14 = true by kernel_rfl)
            exact wpOp_ranL hi rfl (v := .int .i64 er) (w' := w') (by simp only [execOp, e0]; rfl) ⟨rfl, Keeps.refl _ _⟩
          | 18, hv, _ => cases hv
          | 19, hv, _ => cases hv
          | 20, hv, _ => cases hv
          | 21, hv, _ => cases hv
          | 22, _, hi =>
            have hi1 := hi
            simp only [List.getElem?_cons_succ, List.getElem?_cons_zero, Option.some.injEq] at hi1
            subst hi1
            have e0 : aq.eval (.tmp 83) = .int .i64 er := hd.val (j := 17) (by kernel_rfl) rfl rfl rfl
            exact wpOp_ranL hi rfl (v := .int .i64 er) (w' := w') (by simp only [execOp, e0]; rfl) ⟨rfl, Keeps.refl _ _⟩
          | n + 23, _, hi => simp at hi
        case HC =>
          intro o hi aq w' hk hd
          have hi1 := hi
          simp only [List.getElem?_cons_succ, List.getElem?_cons_zero, Option.some.injEq] at hi1
          subst hi1
          have e0 : aq.eval (.tmp 70) = .agg #[.slice sa sn sc, .int .i64 a, .int .u64 (k2 : Int), .int .i64 i2] := hd.val (j := 3) (by kernel_rfl) rfl rfl rfl
          have e1 : aq.eval (.tmp 79) = .int .i64 (a + ar) := hd.val (j := 12) (by kernel_rfl) rfl rfl rfl
          exact wpOp_callL hi rfl (f := 39) (args := #[.agg #[.slice sa sn sc, .int .i64 a, .int .u64 (k2 : Int), .int .i64 i2], .int .i64 (a + ar)]) (by simp only [execOp_call_go, List.map_toArray, List.map_cons, List.map_nil, e0, e1]; rfl) ((HEM.out _ hk).mono (fun e w2 ⟨a1, c1, a2, c2, he, hsl, hbd, hk2⟩ => ⟨_, he, _, _, rfl, hk2, a1, c1, a2, c2, by rw [HFL.out], by simp only [N_sn3.out], by rw [HFL.out]; exact hsl, by simp only [N_sn3.out]; exact hbd⟩))
        case HE =>
          intro L aq w' gF gS xx yy hL hT
          have em := act_mix (bs := [true, true, true, true, true, true, false, false, false, true, true, true, true, true, true, true, true, true, true, true, true, true, true, true, true, true, true, true, true, true, true, true, true, true, true, true, true, true, true, true, true, true, true, true, true, true, true, true, true, true, true, true, true, true, true, true, true, true, true, true, true, true, true, true, true, true, false, false, false, false, false, false, false, false, false, false, false, false, false, false, false, false, false, false, true, true, true, true, true, true, true, true, true, true, true, true, true, true, true, true, true, true, true, true, true, true, true, true, true, true, true, true, true, true, true, true, true, true, true, true, true, true, true, true, true, true, true, true, true, true, true, true, true, true, true, true, true, true, true, true]) hT.sz hT.df hT.fr rfl (by kernel_rfl)
          have hF := hT.f (hL 18 (by decide))
          have hS := hT.s (hL 19 (by decide))
          have hC := hT.c (hL 13 (by decide))
          have kW := hT.kp
          have eF := hF.1
          have eS := hS.1
          obtain ⟨gF0, csF, -, bF, sF⟩ := hF.2
          obtain ⟨gS0, csS, -, bS, sS⟩ := hS.2
          have sF := sF (hL 20 (by decide))
          have sS := sS (hL 21 (by decide))
          subst sF sS
          have k8 : aq.tmps.getD 8 undef = .int .i64 er := hT.v 22 _ 8 rfl (hL 22 (by decide)) rfl rfl
          change aq.tmps.getD 6 undef = _ at eF
          change aq.tmps.getD 7 undef = _ at eS
          have hR := hC.2
          clear hF hS hC hT hL
          simp only [mix, eF, eS, k8] at em
          clear eF eS k8
          generalize aq.tmps.getD 67 undef = q67 at em
          generalize aq.tmps.getD 68 undef = q68 at em
          generalize aq.tmps.getD 69 undef = q69 at em
          generalize aq.tmps.getD 70 undef = q70 at em
          generalize aq.tmps.getD 71 undef = q71 at em
          generalize aq.tmps.getD 72 undef = q72 at em
          generalize aq.tmps.getD 73 undef = q73 at em
          generalize aq.tmps.getD 74 undef = q74 at em
          generalize aq.tmps.getD 75 undef = q75 at em
          generalize aq.tmps.getD 76 undef = q76 at em
          generalize aq.tmps.getD 77 undef = q77 at em
          generalize aq.tmps.getD 78 undef = q78 at em
          generalize aq.tmps.getD 79 undef = q79 at em
          generalize aq.tmps.getD 80 undef = q80 at em
          generalize aq.tmps.getD 66 undef = q66 at em
          generalize aq.tmps.getD 81 undef = q81 at em
          generalize aq.tmps.getD 82 undef = q82 at em
          generalize aq.tmps.getD 83 undef = q83 at em
          subst em
          simp only [Exit.then]
          go_wp2_with fail
          go_meet
          obtain ⟨a1, c1, a2, c2, rfl, rfl, hs9, hb9⟩ := hR
          exact ⟨a1, c1, a2, c2, rfl, gF, rfl, gS, rfl, gF0, gS0, hid (by rw [← HFL.out]; exact bF), hid (by rw [← N_sn3.out]; exact bS), hid (by rw [← HFL.out]; exact hs9.mono (fun b _ h => h.1)), hid (by rw [← N_sn3.out]; exact hb9.mono (fun b _ h => h.1)), hid kW⟩
      case rest =>
        obtain ⟨a1, c1, a2, c2, rfl, b_F, rfl, b_S, rfl, hb_F, hb_S, B_F, B_S, M_0, M_1, hk⟩ := hcut
        replace hk := hk.out
        generalize wc = W2 at *
        have HBP' : Hd (Blk W2 p #[(.slice sa sn sc), (.int .i64 a), (.int .u64 (k2 : Int)), (.int .i64 i2), (.int .i64 nx), (.slice aa fn ac), (.bool lk), (.int .u64 (rk : Int)), (.int .i64 ri), (.slice fa f2n fc), (.slice ra rpn rc), (.slice ga gn gc)] 60) := hid (blk_keep HBP.out hk (fun h => h))
        have HW' : Hd (WR K D W2 p ⟨⟨bs, a, ⟨k2, i2⟩⟩, ⟨nx, fs, lk, ⟨rk, ri⟩⟩, FSq, RP, GT⟩ sa sc aa ac fa fc ra rc ga gc) := hid (HW.out.keep hk (fun _ _ _ h => h))
        have HSX' : Hd (Sl (fun b => b < w.heap.size) W2 (.slice ad xl cd) (u8s x.b)) := hid (HSX.out.keep hk (fun _ _ _ h => h))
        have HSB' : Hd (Bds (fun b => D b ∧ ¬ Mine p fa ra ga b) W2 (.slice sa sn sc) bs) := hid (HSB.out.keep hk (fun _ _ _ h => h))
        have BA' : Hd (Blk W2 w.heap.size #[(.int .i64 x.kd), (.int .i64 x.n), (.int .i64 x.m), (.slice ad xl cd)] 39) := hid (blk_keep BA.out hk (fun h => h))
        clear HBP HW HSX HSB BA
        have HBP := HBP'
        clear HBP'
        have HW := HW'
        clear HW'
        have HSX := HSX'
        clear HSX'
        have HSB := HSB'
        clear HSB'
        have BA := BA'
        clear BA'
        have HK' : Hd (Keeps (fun _ => False) w W2) := hid (HK.out.trans hk)
        clear HK
        have HK := HK'
        clear HK'
        have z_W2 := hk.size
        clear hk
        clear HEM HAA hsum
        have zp := blk_lt HBP.out
        have nePS : b_S ≠ p := by omega
        have nePF : b_F ≠ p := by omega
        by_cases her : er = 0
        · subst her
          rw [if_pos rfl] at HQ9
          have o_HBP_0 : W2.cell? ⟨p, 0, none⟩ = some ((.slice sa sn sc)) := blk_cell HBP.out 0
          have o_HBP_1 : W2.cell? ⟨p, 1, none⟩ = some ((.int .i64 a)) := blk_cell HBP.out 1
          have o_HBP_2 : W2.cell? ⟨p, 2, none⟩ = some ((.int .u64 (k2 : Int))) := blk_cell HBP.out 2
          have o_HBP_3 : W2.cell? ⟨p, 3, none⟩ = some ((.int .i64 i2)) := blk_cell HBP.out 3
          have o_HBP_4 : W2.cell? ⟨p, 4, none⟩ = some ((.int .i64 nx)) := blk_cell HBP.out 4
          have o_HBP_5 : W2.cell? ⟨p, 5, none⟩ = some ((.slice aa fn ac)) := blk_cell HBP.out 5
          have o_HBP_6 : W2.cell? ⟨p, 6, none⟩ = some ((.bool lk)) := blk_cell HBP.out 6
          have o_HBP_7 : W2.cell? ⟨p, 7, none⟩ = some ((.int .u64 (rk : Int))) := blk_cell HBP.out 7
          have o_HBP_8 : W2.cell? ⟨p, 8, none⟩ = some ((.int .i64 ri)) := blk_cell HBP.out 8
          have o_HBP_9 : W2.cell? ⟨p, 9, none⟩ = some ((.slice fa f2n fc)) := blk_cell HBP.out 9
          have o_HBP_10 : W2.cell? ⟨p, 10, none⟩ = some ((.slice ra rpn rc)) := blk_cell HBP.out 10
          have o_HBP_11 : W2.cell? ⟨p, 11, none⟩ = some ((.slice ga gn gc)) := blk_cell HBP.out 11
          have f_HBP_0 : W2.frozen? ⟨p, 0, none⟩ = false := blk_free HBP.out 0
          have f_HBP_1 : W2.frozen? ⟨p, 1, none⟩ = false := blk_free HBP.out 1
          have f_HBP_2 : W2.frozen? ⟨p, 2, none⟩ = false := blk_free HBP.out 2
          have f_HBP_3 : W2.frozen? ⟨p, 3, none⟩ = false := blk_free HBP.out 3
          have f_HBP_4 : W2.frozen? ⟨p, 4, none⟩ = false := blk_free HBP.out 4
          have f_HBP_5 : W2.frozen? ⟨p, 5, none⟩ = false := blk_free HBP.out 5
          have f_HBP_6 : W2.frozen? ⟨p, 6, none⟩ = false := blk_free HBP.out 6
          have f_HBP_7 : W2.frozen? ⟨p, 7, none⟩ = false := blk_free HBP.out 7
          have f_HBP_8 : W2.frozen? ⟨p, 8, none⟩ = false := blk_free HBP.out 8
          have f_HBP_9 : W2.frozen? ⟨p, 9, none⟩ = false := blk_free HBP.out 9
          have f_HBP_10 : W2.frozen? ⟨p, 10, none⟩ = false := blk_free HBP.out 10
          have f_HBP_11 : W2.frozen? ⟨p, 11, none⟩ = false := blk_free HBP.out 11
          have o_B_S_0 : W2.cell? ⟨b_S, 0, none⟩ = some ((.slice a2 sn3 c2)) := blk_cell B_S.out 0
          have o_B_S_1 : W2.cell? ⟨b_S, 1, none⟩ = some ((.int .i64 a3)) := blk_cell B_S.out 1
          have o_B_S_2 : W2.cell? ⟨b_S, 2, none⟩ = some ((.int .u64 (k3 : Int))) := blk_cell B_S.out 2
          have o_B_S_3 : W2.cell? ⟨b_S, 3, none⟩ = some ((.int .i64 i3)) := blk_cell B_S.out 3
          have o_B_F_0 : W2.cell? ⟨b_F, 0, none⟩ = some ((.int .i64 F.q)) := blk_cell B_F.out 0
          have o_B_F_1 : W2.cell? ⟨b_F, 1, none⟩ = some ((.int .i64 F.k)) := blk_cell B_F.out 1
          have o_B_F_2 : W2.cell? ⟨b_F, 2, none⟩ = some ((.bool F.u)) := blk_cell B_F.out 2
          have o_B_F_3 : W2.cell? ⟨b_F, 3, none⟩ = some ((.slice a1 fl c1)) := blk_cell B_F.out 3
          have o_B_F_4 : W2.cell? ⟨b_F, 4, none⟩ = some ((.int .u64 (F.t : Int))) := blk_cell B_F.out 4
          go_upto_region 13 with fail
          clear o_HBP_0 o_HBP_1 o_HBP_2 o_HBP_3 o_HBP_4 o_HBP_5 o_HBP_6 o_HBP_7 o_HBP_8 o_HBP_9 o_HBP_10 o_HBP_11 f_HBP_0 f_HBP_1 f_HBP_2 f_HBP_3 f_HBP_4 f_HBP_5 f_HBP_6 f_HBP_7 f_HBP_8 f_HBP_9 f_HBP_10 f_HBP_11 o_B_S_0 o_B_S_1 o_B_S_2 o_B_S_3 o_B_F_0 o_B_F_1 o_B_F_2 o_B_F_3 o_B_F_4
          generalize hW : World.setCell (World.setCell (World.setCell (World.setCell W2 _ _) _ _) _ _) _ _ = W3
          have HS3 : Hd (WR K D W3 p ⟨⟨bs3, a3, ⟨k3, i3⟩⟩, ⟨nx, fs, lk, ⟨rk, ri⟩⟩, FSq, RP, GT⟩ a2 c2 aa ac fa fc ra rc ga gc) := hid (by
            have h := HW.out.setS (s := ⟨bs3, a3, ⟨k3, i3⟩⟩) (sa2 := a2) (sc2 := c2) (by simp only [N_sn3.out]; exact M_1.out.mono (fun b _ h => ⟨(HKF.out b (by omega)).2, fun e => by have := HML.out b e; omega⟩))
            simp only [N_sn3.out] at h
            rw [← hW]; exact h)
          have k3 : Keeps (fun b => b = p) W2 W3 := by rw [← hW]; exact keep4' _ _ _ _ _ _ _ _ _ _
          have HSF : Hd (Sl (fun b => W1.heap.size ≤ b) W3 (.slice a1 fl c1) (u8s F.b)) := hid (M_0.out.keep k3 (fun b _ h1 h2 => by omega))
          have HBF : Hd (Blk W3 b_F #[(.int .i64 F.q), (.int .i64 F.k), (.bool F.u), (.slice a1 fl c1), (.int .u64 (F.t : Int))] 25) := hid (blk_keep B_F.out k3 (fun h => by omega))
          have HK3 : Hd (Keeps K w W3) := hid ((HK.out.mono (T := K) (fun _ _ h => h.elim)).trans' k3 (fun i hi h => by rw [h]; exact HW.out.k p (.inl rfl)))
          have z3 : W2.heap.size ≤ W3.heap.size := k3.size
          clear hW k3 M_0 M_1 HK HBP HW HSB HSX B_F B_S BA
          have HB4 := hid HS3.out.blk
          simp only [] at HB4
          rw [N_f2n.out] at HB4
          obtain ⟨xs, hO, hX⟩ := HS3.out.fr
          simp only [] at hO hX
          rw [N_f2n.out] at hO
          have HOO := hid hO; have HX := hid hX
          clear hO hX
          have HGP : Hd (∀ b, (Value.slice fa f2n fc).ownBlock = some b → b ≠ p) := hid (fun b hb => by rw [ownB] at hb; exact (HS3.out.d1 b hb).1)
          have HGF : Hd (∀ b, (Value.slice fa f2n fc).ownBlock = some b → b ≠ b_F) := hid (fun b hb => by rw [ownB] at hb; have := HML.out b (.inr (.inl hb)); omega)
          have o9 : W3.cell? ⟨p, 9, none⟩ = some (.slice fa f2n fc) := blk_cell HB4.out 9
          have f9 : W3.frozen? ⟨p, 9, none⟩ = false := blk_free HB4.out 9
          have ga9 : ∀ o, (World.alloc W3 o).cell? ⟨p, 9, none⟩ = some (.slice fa f2n fc) := fun o => keep_cell (keeps_alloc (fun _ => False) _ o) (fun h => h) o9
          have HSS : Hd (∀ w', Keeps (fun b => (Value.slice fa f2n fc).ownBlock = some b) W3 w' → (w'.cell? ⟨b_F, 0, none⟩ = some (.int .i64 F.q) ∧ w'.cell? ⟨b_F, 1, none⟩ = some (.int .i64 F.k) ∧ w'.cell? ⟨b_F, 2, none⟩ = some (.bool F.u) ∧ w'.cell? ⟨b_F, 3, none⟩ = some (.slice a1 fl c1) ∧ w'.cell? ⟨b_F, 4, none⟩ = some (.int .u64 (F.t : Int)))) := hid (fun w' hk => ⟨blk_cell (blk_keep HBF.out hk (fun h => HGF.out _ h rfl)) 0, blk_cell (blk_keep HBF.out hk (fun h => HGF.out _ h rfl)) 1, blk_cell (blk_keep HBF.out hk (fun h => HGF.out _ h rfl)) 2, blk_cell (blk_keep HBF.out hk (fun h => HGF.out _ h rfl)) 3, blk_cell (blk_keep HBF.out hk (fun h => HGF.out _ h rfl)) 4⟩)
          rw [ldQ_eq]
          go_region_held_law (fun w' => w'.cell? ⟨b_F, 0, none⟩ = some (.int .i64 F.q) ∧ w'.cell? ⟨b_F, 1, none⟩ = some (.int .i64 F.k) ∧ w'.cell? ⟨b_F, 2, none⟩ = some (.bool F.u) ∧ w'.cell? ⟨b_F, 3, none⟩ = some (.slice a1 fl c1) ∧ w'.cell? ⟨b_F, 4, none⟩ = some (.int .u64 (F.t : Int))) ((first | (refine HSS.out _ ?_; (repeat (first | (with_reducible exact K7.out) | (with_reducible exact Keeps.refl _ _) | (with_reducible apply Keeps.drewN) | (with_reducible apply Keeps.drew) | (with_reducible apply Keeps.alloc))); done) | (refine set9_5 (by omega) (HSS.out _ ?_); (repeat (first | (with_reducible exact K7.out) | (with_reducible exact Keeps.refl _ _) | (with_reducible apply Keeps.drewN) | (with_reducible apply Keeps.drew) | (with_reducible apply Keeps.alloc))); done)))
            (first | (refine step_append_row rfl (.tmp 94) (.tmp 96) 31 rfl 25 iF zF 5 56 Tryd.underlying31 hFi hF0 hF1 hF2 hF3 (by decide) (fun b => (Value.slice fa f2n fc).ownBlock = some b) (.slice fa f2n fc) f2n xs (by simp [Act.eval]) (HOO.out.alloc _) ⟨W3.heap.size, 0, none⟩ 1 1 [.int .i64 F.q, .int .i64 F.k, .bool F.u, .slice a1 fl c1, .int .u64 (F.t : Int)] (by simp [Act.eval]) rfl (lit_src W3 _ _) (by intro u hu; simp at hu; rcases hu with rfl | rfl | rfl | rfl | rfl <;> rfl) (by simp [maxLen]; omega) (by omega) ?_; intro a7 c7 w7 hown7 hgrow; have K7 : Hd (Keeps (fun b => (Value.slice fa f2n fc).ownBlock = some b) W3 w7) := hid ((Keeps.drew (keeps_alloc _ W3 _)).trans hgrow); have g9 : w7.cell? ⟨p, 9, none⟩ = some (.slice fa f2n fc) := keep_cell K7.out (fun h => HGP.out _ h rfl) o9; have z9 : w7.frozen? ⟨p, 9, none⟩ = false := keep_free K7.out (fun h => HGP.out _ h rfl) o9 f9; replace hown7 := hid hown7; replace hgrow := hid hgrow))
          all_goals
            go_wp2_with fail
            go_end0
            have h5 := HS3.out.keep (keeps_alloc (fun _ => False) W3 (.cells [.int .i64 F.q, .int .i64 F.k, .bool F.u, .slice a1 fl c1, .int .u64 (F.t : Int)].toArray 25)) (fun _ _ _ h => h)
            have h := h5.frApp (fun b hb => (HKF.out b (by simp at hb; omega)).1) (HX.out.keep (keeps_alloc (fun _ => False) W3 _) (fun _ _ _ h => h)) (ys := [.int .i64 F.q, .int .i64 F.k, .bool F.u, .slice a1 fl c1, .int .u64 (F.t : Int)]) (ds := [F]) (by have h := FrL.one (x := F) (a := a1) (c := c1) (K := fun b => D b ∧ ¬ Mine p fa ra ga b) (w := W3.alloc (.cells [.int .i64 F.q, .int .i64 F.k, .bool F.u, .slice a1 fl c1, .int .u64 (F.t : Int)].toArray 25)) (by rw [HFL.out]; exact (HSF.out.keep (keeps_alloc (fun _ => False) _ _) (fun _ _ _ h => h)).mono (fun b _ h => ⟨(HKF.out b (by omega)).2, fun e => by have := HML.out b e; omega⟩)); rw [HFL.out] at h; exact h) (w7 := w7) (a7 := a7) (c7 := c7) (by simp only [N_f2n.out, List.length_singleton]; exact hown7.out) (by simp only [N_f2n.out]; exact ((Keeps.refl _ _).drew).trans hgrow.out)
            simp only [N_f2n.out, List.length_singleton] at h
            rw [← HQ9.out]
            refine ⟨rfl, ⟨_, _, _, _, _, _, _, _, _, _, h⟩, (HK3.out.trans' K7.out (fun i hi h => ?_)).setCell (.inl (HS3.out.k p (.inl rfl))) _⟩
            rw [ownB] at h; exact HS3.out.k i (.inr (.inl h))
        · rw [if_neg her] at HQ9
          have e1 : (er == 0) = false := by simp [her]
          go_wp2
          go_end0
          rw [← HQ9.out]
          exact ⟨rfl, ⟨_, _, _, _, _, _, _, _, _, _, HW.out⟩, HK.out.mono (fun _ _ h => h.elim)⟩
    · have e1 : (kk == 1) = false := by simp; omega
      have e2 : (kk == 2) = false := by simp; omega
      by_cases h3 : kk = 3
      · subst h3
        have q9 : (if 0 < FSq.length then arriveM ⟨⟨bs, a, ⟨k2, i2⟩⟩, ⟨nx, fs, lk, ⟨rk, ri⟩⟩, FSq, RP, GT⟩ (FSq.getD (around x.n FSq.length).toNat zFr) else ⟨⟨bs, a, ⟨k2, i2⟩⟩, ⟨nx, fs, lk, ⟨rk, ri⟩⟩, FSq, RP, GT⟩) = M9 := (actM_a HKK.out).symm.trans HM9.out
        have HQ9 := hid q9
        clear q9
        rw [N_f2n.out] at HQ9
        by_cases hf0 : 0 < f2n
        · have f1 : (0 : Int) < f2n := by omega
          rw [if_pos hf0] at HQ9
          have hjb := around_b x.n (most := (f2n : Int)) (by omega)
          obtain ⟨j, hj⟩ : ∃ j : Nat, around x.n f2n = (j : Int) := ⟨(around x.n f2n).toNat, by omega⟩
          rw [hj] at HQ9 hjb
          have HJ := hid hj
          clear hj
          have hjl : j < f2n := by omega
          have j0 : (0 : Int) ≤ j := by omega
          have j1 : (j : Int) < f2n := by omega
          rw [show ((j : Int)).toNat = j by omega] at HQ9
          obtain ⟨f, hfj⟩ : ∃ f, FSq[j]? = some f := ⟨FSq[j]'(by rw [N_f2n.out]; exact hjl), List.getElem?_eq_getElem _⟩
          rw [show FSq.getD j zFr = f by rw [List.getD, hfj]; rfl] at HQ9
          have HFO : Hd f.ok := hid (HO.out.f f (List.mem_of_getElem? hfj))
          obtain ⟨bx, ox, rfl, -, hbx, hcx⟩ := frs_cells (by have h := HW.out.fr.frs; simp only [N_f2n.out] at h; exact h) (by rw [N_f2n.out]; exact hf0)
          obtain ⟨x0, x1, x2, x4, ad5, cd5, x3, hsf⟩ := hcx j f hfj
          clear hcx
          have HX0 := hid x0; have HX1 := hid x1; have HX2 := hid x2; have HX3 := hid x3; have HX4 := hid x4; have HSF := hid hsf
          clear x0 x1 x2 x3 x4 hsf
          obtain ⟨fl, hfl⟩ : ∃ n, f.b.length = n := ⟨_, rfl⟩
          have HFL := hid hfl
          rw [hfl] at HX3 HSF
          clear hfl
          have HGT : Hd (GT.length ≤ 100000) := hid (by have h := (winv_gt HI.out).2; exact Nat.le_trans h (by omega))
          have HAA : Hd (∀ X, Calls Tryd.prog 22 #[.int .i64 x.n, .int .i64 (f2n : Int)] X fun e w' => e = .returned (.int .i64 (j : Int)) ∧ Keeps (fun _ => False) X w') := hid (fun X => by have h := around_K x.n f2n X HXO.out.n.1 HXO.out.n.2 (by omega) (by omega); rw [HJ.out] at h; exact h)
          have HRR : Hd (∀ X, Keeps (fun _ => False) W1 X → Calls Tryd.prog 51 #[.pointer (some ⟨p, 0, none⟩), .agg #[.int .i64 f.q, .int .i64 f.k, .bool f.u, .slice ad5 fl cd5, .int .u64 (f.t : Int)]] X fun e w' => (∃ er, e = .returned (.int .i64 er)) ∧ WRx K D w' p M9 ∧ Keeps K X w') := hid (fun X hx => by have h := arrive_any ⟨⟨bs, a, ⟨k2, i2⟩⟩, ⟨nx, fs, lk, ⟨rk, ri⟩⟩, FSq, RP, GT⟩ p f ad5 cd5 K D _ X ⟨_, _, _, _, _, _, _, _, _, _, HW.out.keep hx (fun _ _ _ h => h)⟩ (fun b hb => HKF.out b (by have := hx.size; omega)) (by rw [HFL.out]; exact HSF.out.keep hx (fun _ _ _ h => h)) _ HO.out.r (by omega) HFO.out HGT.out; rw [HQ9.out, HFL.out] at h; exact h.mono (fun e w' h => ⟨⟨_, h.1⟩, h.2⟩))
          have o_HBP_9 : W1.cell? ⟨p, 9, none⟩ = some ((.slice (some ⟨bx, ox, none⟩) f2n fc)) := blk_cell HBP.out 9
          go_upto_region 16 with fail
          clear o_HBP_9
          have x9 : ∀ x : Ext W1, x.w.cell? ⟨p, 9, none⟩ = some (.slice (some ⟨bx, ox, none⟩) f2n fc) := ext_bcell HBP.out 9 rfl
          have xa : ∀ y : Ext W1, y.w.cell? ⟨w.heap.size, 1, none⟩ = some (.int .i64 x.n) := ext_bcell BA.out 1 rfl
          have x0 : ∀ x : Ext W1, x.w.cell? ⟨bx, ox + j * 5, none⟩ = some (.int .i64 f.q) := fun x => keep_cell x.k (fun h => h) HX0.out
          have x1 : ∀ x : Ext W1, x.w.cell? ⟨bx, ox + j * 5 + 1, none⟩ = some (.int .i64 f.k) := fun x => keep_cell x.k (fun h => h) HX1.out
          have x2 : ∀ x : Ext W1, x.w.cell? ⟨bx, ox + j * 5 + 2, none⟩ = some (.bool f.u) := fun x => keep_cell x.k (fun h => h) HX2.out
          have x3 : ∀ x : Ext W1, x.w.cell? ⟨bx, ox + j * 5 + 3, none⟩ = some (.slice ad5 fl cd5) := fun x => keep_cell x.k (fun h => h) HX3.out
          have x4 : ∀ x : Ext W1, x.w.cell? ⟨bx, ox + j * 5 + 4, none⟩ = some (.int .u64 (f.t : Int)) := fun x => keep_cell x.k (fun h => h) HX4.out
          have HA2 : Hd (∀ X, Calls Tryd.prog 22 #[.int .i64 x.n, .int .i64 (f2n : Int)] X fun e w' => e = .returned (.int .i64 (j : Int)) ∧ X = w') := hid (fun X => by have h := Around_any x.n f2n X HXO.out.n.1 HXO.out.n.2 (by omega) (by omega); rw [HJ.out] at h; exact h)
          refine wp_region_ext_tail 15 (by kernel_rfl) (by kernel_rfl) ?_; simp only [List.take_succ_cons, List.take_zero, List.drop_succ_cons, List.drop_zero]
          repeat (go_big_quiet_step (first | (go_at_call 22; exact ext_same (HA2.out _))))
          refine wpQuiet_nil ?_
          rintro _ ⟨y, rfl⟩
          go_wp2_with fail
          refine (HRR.out _ y.k).mono ?_
          rintro e w8 ⟨⟨er, rfl⟩, hwr, hkk⟩
          go_wp2_with fail
          go_end0
          exact ⟨rfl, hwr, (HK.out.mono (T := K) (fun _ _ h => h.elim)).trans ((y.k.mono (T := K) (fun _ _ h => h.elim)).trans hkk)⟩
        · have f1 : ¬ ((0 : Int) < f2n) := by omega
          rw [if_neg hf0] at HQ9
          have o_HBP_9 : W1.cell? ⟨p, 9, none⟩ = some ((.slice fa f2n fc)) := blk_cell HBP.out 9
          go_wp2
          go_end0
          rw [← HQ9.out]
          exact ⟨rfl, ⟨_, _, _, _, _, _, _, _, _, _, HW.out⟩, HK.out.mono (fun _ _ h => h.elim)⟩
      · have e3 : (kk == 3) = false := by simp [h3]
        by_cases h4 : kk = 4
        · subst h4
          have q9 : M9 = ⟨⟨bs, a, ⟨k2, i2⟩⟩, ⟨nx, fs, lk, ⟨rk, ri⟩⟩, FSq, RP ++ [stateM ⟨nx, fs, lk, ⟨rk, ri⟩⟩], GT⟩ := HM9.out.symm.trans (actM_s HKK.out)
          have HQ9 := hid q9
          clear q9
          obtain ⟨hv, hhv⟩ : ∃ h, havI nx fs = h := ⟨_, rfl⟩
          have HHV := hid hhv
          clear hhv
          have HST : Hd (∀ X, Keeps (fun _ => False) W1 X → Calls Tryd.prog 28 #[.agg #[.int .i64 nx, .slice aa fn ac, .bool lk, .int .u64 (rk : Int), .int .i64 ri]] X fun e w' => e = .returned (.agg #[.int .i64 nx, .int .i64 hv, .int .i64 ri, .bool lk]) ∧ Keeps (fun _ => False) X w') := hid (fun X hx => by have h := State_any fs aa ac nx lk ⟨rk, ri⟩ _ X (by rw [N_fn.out]; exact HW.out.keep hx (fun _ _ _ h => h) |>.ah |> fun h => by simpa only [N_fn.out] using h) (by have := HO.out.r.len; exact Nat.le_trans this (by decide)) hnx0 (by omega) (fun y hy => by have h := HO.out.r.f y hy; exact ⟨h.1, by have := h.2.1; show y.q ≤ nx + 60; have h3 : y.q ≤ nx + 15 := h.2.1; omega⟩); rw [HHV.out, N_fn.out] at h; exact h)
          go_upto_region 18 with fail
          have o_HBP_10 : W1.cell? ⟨p, 10, none⟩ = some ((.slice ra rpn rc)) := blk_cell HBP.out 10
          have f_HBP_10 : W1.frozen? ⟨p, 10, none⟩ = false := blk_free HBP.out 10
          obtain ⟨xs, hO, hX⟩ := HW.out.rp
          simp only [] at hO hX
          rw [N_rpn.out] at hO
          have HOO := hid hO; have HX := hid hX
          clear hO hX
          have HGP : Hd (∀ b, (Value.slice ra rpn rc).ownBlock = some b → b ≠ p) := hid (fun b hb => by rw [ownB] at hb; exact (HW.out.d2 b hb).1)
          have HSS : Hd (∀ w', Keeps (fun b => (Value.slice ra rpn rc).ownBlock = some b) W1 w' → (w'.cell? ⟨p, 4, none⟩ = some ((.int .i64 nx)) ∧ w'.cell? ⟨p, 5, none⟩ = some ((.slice aa fn ac)) ∧ w'.cell? ⟨p, 6, none⟩ = some ((.bool lk)) ∧ w'.cell? ⟨p, 7, none⟩ = some ((.int .u64 (rk : Int))) ∧ w'.cell? ⟨p, 8, none⟩ = some ((.int .i64 ri)))) := hid (fun w' hk => ⟨blk_cell (blk_keep HBP.out hk (fun h => HGP.out _ h rfl)) 4, blk_cell (blk_keep HBP.out hk (fun h => HGP.out _ h rfl)) 5, blk_cell (blk_keep HBP.out hk (fun h => HGP.out _ h rfl)) 6, blk_cell (blk_keep HBP.out hk (fun h => HGP.out _ h rfl)) 7, blk_cell (blk_keep HBP.out hk (fun h => HGP.out _ h rfl)) 8⟩)
          have KC : Hd (Keeps (fun _ => False) W1 W1) := hid (Keeps.refl _ _)
          rw [ldP_eq]
          go_region_held_law (fun w' => w'.cell? ⟨p, 4, none⟩ = some ((.int .i64 nx)) ∧ w'.cell? ⟨p, 5, none⟩ = some ((.slice aa fn ac)) ∧ w'.cell? ⟨p, 6, none⟩ = some ((.bool lk)) ∧ w'.cell? ⟨p, 7, none⟩ = some ((.int .u64 (rk : Int))) ∧ w'.cell? ⟨p, 8, none⟩ = some ((.int .i64 ri))) ((first | (refine HSS.out _ ?_; (repeat (first | (with_reducible exact K7.out) | (with_reducible exact KC.out.mono (fun _ _ h => h.elim)) | (with_reducible exact Keeps.refl _ _) | (with_reducible apply Keeps.drewN) | (with_reducible apply Keeps.drew) | (with_reducible apply Keeps.alloc))); done) | (refine set10_5 (HSS.out _ ?_); (repeat (first | (with_reducible exact K7.out) | (with_reducible exact KC.out.mono (fun _ _ h => h.elim)) | (with_reducible exact Keeps.refl _ _) | (with_reducible apply Keeps.drewN) | (with_reducible apply Keeps.drew) | (with_reducible apply Keeps.alloc))); done)))
            (first
            | (refine step_append_row rfl (.tmp 130) (.tmp 136) 58 rfl 50 iR zR 4 32 Tryd.underlying58 hRi hR0 hR1 hR2 hR3 (by decide) (fun b => (Value.slice ra rpn rc).ownBlock = some b) (.slice ra rpn rc) rpn xs (by simp [Act.eval]) ((HOO.out.keep KC.out (fun _ _ _ h => h)).alloc _) ⟨wy0.heap.size, 0, none⟩ 1 1 [.int .i64 nx, .int .i64 hv, .int .i64 ri, .bool lk] (by simp [Act.eval]) rfl (lit_src wy0 _ _) (by intro u hu; simp at hu; rcases hu with rfl | rfl | rfl | rfl <;> rfl) (by simp [maxLen]; omega) (by omega) ?_; intro a7 c7 w7 hown7 hgrow; have K7 : Hd (Keeps (fun b => (Value.slice ra rpn rc).ownBlock = some b) W1 w7) := hid (((KC.out.mono (T := fun b => (Value.slice ra rpn rc).ownBlock = some b) (fun _ _ h => h.elim)).alloc _).trans hgrow); have g10 : w7.cell? ⟨p, 10, none⟩ = some (.slice ra rpn rc) := keep_cell K7.out (fun h => HGP.out _ h rfl) (blk_cell HBP.out 10); have z10 : w7.frozen? ⟨p, 10, none⟩ = false := keep_free K7.out (fun h => HGP.out _ h rfl) (blk_cell HBP.out 10) (blk_free HBP.out 10); replace hown7 := hid hown7; replace hgrow := hid hgrow)
            | (go_at_call 28; (refine (HST.out _ (by repeat (first | (with_reducible exact KC.out) | (with_reducible exact Keeps.refl _ _) | (with_reducible apply Keeps.drewN) | (with_reducible apply Keeps.drew) | (with_reducible apply Keeps.alloc)))).mono ?_); rintro e wy0 ⟨rfl, hk⟩; have KC2 : Hd (Keeps (fun _ => False) W1 wy0) := hid (Keeps.trans (S := fun _ => False) (by repeat (first | (with_reducible exact KC.out) | (with_reducible exact Keeps.refl _ _) | (with_reducible apply Keeps.drewN) | (with_reducible apply Keeps.drew) | (with_reducible apply Keeps.alloc))) hk); replace KC := KC2; clear KC2; have c10 : wy0.cell? ⟨p, 10, none⟩ = some (.slice ra rpn rc) := keep_cell KC.out (fun h => h) (blk_cell HBP.out 10); have ga10 : ∀ o, (World.alloc wy0 o).cell? ⟨p, 10, none⟩ = some (.slice ra rpn rc) := fun o => keep_cell (keeps_alloc (fun _ => False) _ o) (fun h => h) c10; replace hk := hid hk))
          all_goals
            go_wp2_with fail
            go_end0
            have h5 := (HW.out.keep KC.out (fun _ _ _ h => h)).keep (keeps_alloc (fun _ => False) wy0 (.cells [.int .i64 nx, .int .i64 hv, .int .i64 ri, .bool lk].toArray 50)) (fun _ _ _ h => h)
            have zk := KC.out.size
            have h := h5.rpApp (fun b hb => (HKF.out b (by simp at hb; omega)).1) HX.out (ys := [.int .i64 nx, .int .i64 hv, .int .i64 ri, .bool lk]) (ds := [stateM ⟨nx, fs, lk, ⟨rk, ri⟩⟩]) (by have h := RpL.one (stateM ⟨nx, fs, lk, ⟨rk, ri⟩⟩); unfold stateM at h ⊢; simp only [HHV.out] at h ⊢; exact h) (w7 := w7) (a7 := a7) (c7 := c7) (by simp only [N_rpn.out, List.length_singleton]; exact hown7.out) (by simp only [N_rpn.out]; exact hgrow.out)
            simp only [N_rpn.out, List.length_singleton] at h
            rw [HQ9.out]
            refine ⟨rfl, ⟨_, _, _, _, _, _, _, _, _, _, h⟩, ?_⟩
            exact ((HK.out.mono (T := K) (fun _ _ h => h.elim)).trans' K7.out (fun i hi h => by rw [ownB] at h; exact HW.out.k i (.inr (.inr (.inl h))))).setCell (.inl (HW.out.k p (.inl rfl))) _
        · have e4 : (kk == 4) = false := by simp [h4]
          have q9 : (if 0 < RP.length then ⟨confirmM ⟨bs, a, ⟨k2, i2⟩⟩ (RP.getD (around x.n RP.length).toNat zRp), ⟨nx, fs, lk, ⟨rk, ri⟩⟩, FSq, RP, GT⟩ else ⟨⟨bs, a, ⟨k2, i2⟩⟩, ⟨nx, fs, lk, ⟨rk, ri⟩⟩, FSq, RP, GT⟩) = M9 := (actM_c (by rw [HKK.out]; omega)).symm.trans HM9.out
          have HQ9 := hid q9
          clear q9
          rw [N_rpn.out] at HQ9
          by_cases hf0 : 0 < rpn
          · have f1 : (0 : Int) < rpn := by omega
            rw [if_pos hf0] at HQ9
            have hjb := around_b x.n (most := (rpn : Int)) (by omega)
            obtain ⟨j, hj⟩ : ∃ j : Nat, around x.n rpn = (j : Int) := ⟨(around x.n rpn).toNat, by omega⟩
            rw [hj] at HQ9 hjb
            have HJ := hid hj
            clear hj
            have hjl : j < rpn := by omega
            have j0 : (0 : Int) ≤ j := by omega
            have j1 : (j : Int) < rpn := by omega
            rw [show ((j : Int)).toNat = j by omega] at HQ9
            obtain ⟨y, hyj⟩ : ∃ f, RP[j]? = some f := ⟨RP[j]'(by rw [N_rpn.out]; exact hjl), List.getElem?_eq_getElem _⟩
            rw [show RP.getD j zRp = y by rw [List.getD, hyj]; rfl] at HQ9
            have hyk : y.ky ≤ 1000000000 := by have h := (HI.out.p y (List.mem_of_getElem? hyj)).k1; have h2 : y.ky ≤ ri := h; omega
            obtain ⟨bx, ox, rfl, hcx⟩ := rpo_cells (by have h := HW.out.rp; simp only [N_rpn.out] at h; exact h) (by rw [N_rpn.out]; exact hf0)
            obtain ⟨x0, x1, x2, x3⟩ := hcx j y hyj
            clear hcx
            have HX0 := hid x0; have HX1 := hid x1; have HX2 := hid x2; have HX3 := hid x3
            clear x0 x1 x2 x3
            have HAA : Hd (∀ X, Calls Tryd.prog 22 #[.int .i64 x.n, .int .i64 (rpn : Int)] X fun e w' => e = .returned (.int .i64 (j : Int)) ∧ Keeps (fun _ => False) X w') := hid (fun X => by have h := around_K x.n rpn X HXO.out.n.1 HXO.out.n.2 (by omega) (by omega); rw [HJ.out] at h; exact h)
            obtain ⟨A3, hA3⟩ : ∃ A, ackN a y.nx sn = A := ⟨_, rfl⟩
            obtain ⟨⟨k3, i3⟩, hL3⟩ : ∃ A, confL ⟨k2, i2⟩ y.ky = A := ⟨_, rfl⟩
            have HA3 := hid hA3; have HL3 := hid hL3
            clear hA3 hL3
            have q8 : confirmM ⟨bs, a, ⟨k2, i2⟩⟩ y = ⟨bs, A3, ⟨k3, i3⟩⟩ := by unfold confirmM; simp only [N_sn.out, HA3.out, HL3.out]
            rw [q8] at HQ9
            clear q8
            have HCF : Hd (∀ X, Keeps (fun _ => False) W1 X → Calls Tryd.prog 44 #[.agg #[.slice sa sn sc, .int .i64 a, .int .u64 (k2 : Int), .int .i64 i2], .agg #[.int .i64 y.nx, .int .i64 y.ha, .int .i64 y.ky, .bool y.lk]] X fun e w' => ∃ a2 c2, e = .returned (.agg #[.slice a2 sn c2, .int .i64 A3, .int .u64 (k3 : Int), .int .i64 i3]) ∧ Bds (fun b => X.heap.size ≤ b) w' (.slice a2 sn c2) bs ∧ Keeps (fun _ => False) X w') := hid (fun X hx => by have h := Confirm_any bs sa sc a ⟨k2, i2⟩ y.nx y.ha y.ky y.lk _ X (by rw [N_sn.out]; exact HSB.out.keep hx (fun _ _ _ h => h)) (by rw [N_sn.out]; omega) HI.out.bl HLOK.out hyk; unfold ConfR at h; simp only [N_sn.out, HA3.out, HL3.out] at h; exact h)
            have W0E : W1.heap.size ≤ W1.heap.size := Nat.le_refl _
            have o_HBP_10 : W1.cell? ⟨p, 10, none⟩ = some ((.slice (some ⟨bx, ox, none⟩) rpn rc)) := blk_cell HBP.out 10
            go_upto_region 3 with fail
            clear o_HBP_10
            have KC : Hd (Keeps (fun _ => False) W1 W1) := hid (Keeps.refl _ _)
            have HSS : Hd (∀ w', Keeps (fun _ => False) W1 w' → (w'.cell? ⟨p, 10, none⟩ = some ((.slice (some ⟨bx, ox, none⟩) rpn rc)) ∧ w'.cell? ⟨w.heap.size, 1, none⟩ = some ((.int .i64 x.n)) ∧ w'.cell? ⟨bx, ox + j * 4, none⟩ = some (.int .i64 y.nx) ∧ w'.cell? ⟨bx, ox + j * 4 + 1, none⟩ = some (.int .i64 y.ha) ∧ w'.cell? ⟨bx, ox + j * 4 + 2, none⟩ = some (.int .i64 y.ky) ∧ w'.cell? ⟨bx, ox + j * 4 + 3, none⟩ = some (.bool y.lk))) := hid (fun w' hk => ⟨blk_cell (blk_keep HBP.out hk (fun h => h)) 10, blk_cell (blk_keep BA.out hk (fun h => h)) 1, keep_cell hk (fun h => h) HX0.out, keep_cell hk (fun h => h) HX1.out, keep_cell hk (fun h => h) HX2.out, keep_cell hk (fun h => h) HX3.out⟩)
            have o_HBP_0 : W1.cell? ⟨p, 0, none⟩ = some ((.slice sa sn sc)) := blk_cell HBP.out 0
            have o_HBP_1 : W1.cell? ⟨p, 1, none⟩ = some ((.int .i64 a)) := blk_cell HBP.out 1
            have o_HBP_2 : W1.cell? ⟨p, 2, none⟩ = some ((.int .u64 (k2 : Int))) := blk_cell HBP.out 2
            have o_HBP_3 : W1.cell? ⟨p, 3, none⟩ = some ((.int .i64 i2)) := blk_cell HBP.out 3
            have f_HBP_0 : W1.frozen? ⟨p, 0, none⟩ = false := blk_free HBP.out 0
            have f_HBP_1 : W1.frozen? ⟨p, 1, none⟩ = false := blk_free HBP.out 1
            have f_HBP_2 : W1.frozen? ⟨p, 2, none⟩ = false := blk_free HBP.out 2
            have f_HBP_3 : W1.frozen? ⟨p, 3, none⟩ = false := blk_free HBP.out 3
            have hnp : bx ≠ p := by have h := HW.out.d2 bx rfl; exact h.1
            rw [ldS_eq]
            go_region_held (fun w' => w'.cell? ⟨p, 10, none⟩ = some ((.slice (some ⟨bx, ox, none⟩) rpn rc)) ∧ w'.cell? ⟨w.heap.size, 1, none⟩ = some ((.int .i64 x.n)) ∧ w'.cell? ⟨bx, ox + j * 4, none⟩ = some (.int .i64 y.nx) ∧ w'.cell? ⟨bx, ox + j * 4 + 1, none⟩ = some (.int .i64 y.ha) ∧ w'.cell? ⟨bx, ox + j * 4 + 2, none⟩ = some (.int .i64 y.ky) ∧ w'.cell? ⟨bx, ox + j * 4 + 3, none⟩ = some (.bool y.lk)) (first | (refine HSS.out _ ?_; (repeat (first | (with_reducible exact KC.out) | (with_reducible exact Keeps.refl _ _) | (with_reducible apply Keeps.drewN) | (with_reducible apply Keeps.drew) | (with_reducible apply Keeps.alloc))); done) | (refine set4_6 hnp (by omega) (HSS.out _ ?_); (repeat (first | (with_reducible exact KC.out) | (with_reducible exact Keeps.refl _ _) | (with_reducible apply Keeps.drewN) | (with_reducible apply Keeps.drew) | (with_reducible apply Keeps.alloc))); done))
              (first
              | (go_at_call 22; (refine (HAA.out _).mono ?_); rintro e wy0 ⟨rfl, hk⟩; have KC2 : Hd (Keeps (fun _ => False) W1 wy0) := hid (Keeps.trans (S := fun _ => False) (by repeat (first | (with_reducible exact KC.out) | (with_reducible exact Keeps.refl _ _) | (with_reducible apply Keeps.drewN) | (with_reducible apply Keeps.drew) | (with_reducible apply Keeps.alloc))) hk); replace KC := KC2; clear KC2; have cz0 : wy0.cell? ⟨p, 0, none⟩ = some (.slice sa sn sc) := blk_cell (blk_keep HBP.out KC.out (fun h => h)) 0; have cz1 : wy0.cell? ⟨p, 1, none⟩ = some (.int .i64 a) := blk_cell (blk_keep HBP.out KC.out (fun h => h)) 1; have cz2 : wy0.cell? ⟨p, 2, none⟩ = some (.int .u64 (k2 : Int)) := blk_cell (blk_keep HBP.out KC.out (fun h => h)) 2; have cz3 : wy0.cell? ⟨p, 3, none⟩ = some (.int .i64 i2) := blk_cell (blk_keep HBP.out KC.out (fun h => h)) 3; replace hk := hid hk)
              | (go_at_call 44; (refine (HCF.out _ (by repeat (first | (with_reducible exact KC.out) | (with_reducible exact Keeps.refl _ _) | (with_reducible apply Keeps.drewN) | (with_reducible apply Keeps.drew) | (with_reducible apply Keeps.alloc)))).mono ?_); rintro e wy1 ⟨a2, c2, rfl, hbd, hk⟩; have KC2 : Hd (Keeps (fun _ => False) W1 wy1) := hid (Keeps.trans (S := fun _ => False) (by repeat (first | (with_reducible exact KC.out) | (with_reducible exact Keeps.refl _ _) | (with_reducible apply Keeps.drewN) | (with_reducible apply Keeps.drew) | (with_reducible apply Keeps.alloc))) hk); have HBD := hid ((bds_after hbd (n := W1.heap.size) (by first | exact Nat.le_refl _ | (simp; done) | (simp; omega) | (have := KC.out.size; (try simp); omega) | fail)) _ (Keeps.refl _ _)); clear hbd; replace KC := KC2; clear KC2; replace hk := hid hk; have fz0 : wy1.frozen? ⟨p, 0, none⟩ = false := blk_free (blk_keep HBP.out KC.out (fun h => h)) 0; have cz0 : wy1.cell? ⟨p, 0, none⟩ = some (.slice sa sn sc) := blk_cell (blk_keep HBP.out KC.out (fun h => h)) 0; have fz1 : wy1.frozen? ⟨p, 1, none⟩ = false := blk_free (blk_keep HBP.out KC.out (fun h => h)) 1; have cz1 : wy1.cell? ⟨p, 1, none⟩ = some (.int .i64 a) := blk_cell (blk_keep HBP.out KC.out (fun h => h)) 1; have fz2 : wy1.frozen? ⟨p, 2, none⟩ = false := blk_free (blk_keep HBP.out KC.out (fun h => h)) 2; have cz2 : wy1.cell? ⟨p, 2, none⟩ = some (.int .u64 (k2 : Int)) := blk_cell (blk_keep HBP.out KC.out (fun h => h)) 2; have fz3 : wy1.frozen? ⟨p, 3, none⟩ = false := blk_free (blk_keep HBP.out KC.out (fun h => h)) 3; have cz3 : wy1.cell? ⟨p, 3, none⟩ = some (.int .i64 i2) := blk_cell (blk_keep HBP.out KC.out (fun h => h)) 3))
            all_goals
              go_wp2_with fail
              go_end0
              have hk9 : Keeps (fun _ => False) W1 wy1 := KC.out
              have h := (HW.out.keep hk9 (fun _ _ _ h => h)).setS (s := ⟨bs, A3, ⟨k3, i3⟩⟩) (sa2 := a2) (sc2 := c2) (by simp only [N_sn.out]; exact HBD.out.mono (fun b _ h => ⟨(HKF.out b (by omega)).2, fun e => by have := HML.out b e; omega⟩))
              simp only [N_sn.out] at h
              rw [← HQ9.out]
              refine ⟨rfl, ⟨_, _, _, _, _, _, _, _, _, _, h⟩, ?_⟩
              exact (HK.out.mono (T := K) (fun _ _ h => h.elim)).trans' (Keeps.trans' (S := fun b => b = p) (hk9.mono (fun _ _ h => h.elim)) (keep4' _ _ _ _ _ _ _ _ _ _) (fun _ _ h => h)) (fun i hi h => by rw [h]; exact HW.out.k p (.inl rfl))
          · have f1 : ¬ ((0 : Int) < rpn) := by omega
            rw [if_neg hf0] at HQ9
            have o_HBP_10 : W1.cell? ⟨p, 10, none⟩ = some ((.slice ra rpn rc)) := blk_cell HBP.out 10
            go_wp2
            go_end0
            rw [← HQ9.out]
            exact ⟨rfl, ⟨_, _, _, _, _, _, _, _, _, _, HW.out⟩, HK.out.mono (fun _ _ h => h.elim)⟩
end Go.Proofs.YthoikljmokkchaaDoor
