/- Frame: a world begins; histories; FrameOrder walked. -/
import Derived.Test.YthoikljmokkchaaDoorFrWD
import Derived.Test.YthoikljmokkchaaDoorFrV
import Derived.Test.YthoikljmokkchaaDoorFrHist
import Derived.Deep.DrawnRows
namespace Go.Proofs.YthoikljmokkchaaDoor
open Go.RowKit
attribute [local go_sem ↓] Go.wp_at_zero Go.wp_at_succ
theorem wr_begin {K : Nat → Prop} {X : World} {key : Nat} (hK : K X.heap.size) :
    WR K (fun _ => True) (X.alloc (.cells #[.slice none 0 0, .int .i64 0, .int .u64 (key : Int), .int .i64 0, .int .i64 0, .slice none 0 0, .bool false, .int .u64 (key : Int), .int .i64 0, .slice none 0 0, .slice none 0 0, .slice none 0 0] 60)) X.heap.size (beginM key) none 0 none 0 none 0 none 0 none 0 := by
  refine ⟨blk_new _ _ _, Bds.nil _ _, Frs.nil _ _, ⟨[], Own.nil _ _ _ _, FrL.nil _ _⟩, ⟨[], Own.nil _ _ _ _, RpL.nil⟩, ⟨[], Own.nil _ _ _ _, BdL.nil _ _⟩, fun b h => by simp [Value.ownBlock] at h, fun b h => by simp [Value.ownBlock] at h, fun b h => by simp [Value.ownBlock] at h, fun b h => ?_⟩
  rcases h with rfl | h | h | h
  · exact hK
  · simp [Value.ownBlock] at h
  · simp [Value.ownBlock] at h
  · simp [Value.ownBlock] at h
set_option maxRecDepth 100000 in
set_option maxHeartbeats 4000000 in
theorem begin_any (key : Nat) (w : World) :
    Calls Tryd.prog 30 #[.int .u64 (key : Int)] w fun e w' => ∃ p, e = .returned (.pointer (some ⟨p, 0, none⟩)) ∧ WRx (fun b => w.heap.size ≤ b) (fun _ => True) w' p (beginM key) ∧ Keeps (fun _ => False) w w' := by
  go_enter Tryd.func30, Tryd.ntmps30
  go_wp2_with fail
  refine (NewSender_any key _).mono ?_
  rintro e w1 ⟨rfl, h1⟩
  go_wp2_with fail
  refine (NewReceiver_any key _).mono ?_
  rintro e w2 ⟨rfl, h2⟩
  go_wp2
  go_ret
  have z1 := h1.size; have z2 := h2.size
  exact ⟨_, rfl, ⟨_, _, _, _, _, _, _, _, _, _, wr_begin (by omega)⟩, (h1.trans h2).alloc _⟩
def hist (key : Nat) (l : List AC) (i : Nat) : WM := (l.take i).foldl actM (beginM key)
theorem hist_next {key : Nat} {l : List AC} {i : Nat} {x : AC} (h : l[i]? = some x) : hist key l (i + 1) = actM (hist key l i) x := by
  unfold hist; rw [List.take_add_one, h, List.foldl_append]; rfl
theorem hist_ok {key : Nat} {l : List AC} (hkey : key < 18446744073709551616) (hx : ∀ x ∈ l, AcOk x) : ∀ i, i ≤ 121 → i ≤ l.length → WInv key (hist key l i) i ∧ WOk (hist key l i) i := by
  intro i
  induction i with
  | zero => intro _ _; exact ⟨winv_begin key, wok_begin hkey⟩
  | succ i ih =>
    intro h1 h2
    obtain ⟨g1, g2⟩ := ih (by omega) (by omega)
    have hi : i < l.length := h2
    rw [hist_next (List.getElem?_eq_getElem hi)]
    exact ⟨winv_act g1 (by omega), wok_act g1 g2 (by omega) (hx _ (List.getElem_mem hi)).b⟩
theorem bds_to {K : Nat → Prop} {w : World} {a : Option Addr} {n c : Nat} {l : List (List Nat)} (h : Bds K w (.slice a n c) l) (hn : l.length = n) (u : Nat) (hu : u ≤ n) : ∀ {hh : Int}, hh = (u : Int) → ∃ a2 c2, (∀ w, (Instr.slice 43 (.slice a n c) none (some (.int .i64 hh)) none).run Tryd.prog w = .ok (.slice a2 u c2) w) ∧ Bds K w (.slice a2 u c2) (l.take u) := by
  intro hh hhu
  obtain ⟨i0, hi, -, hz1, -⟩ := bd_parts
  obtain ⟨xs, hr, hb⟩ := h
  rw [hn] at hr
  obtain ⟨a2, c2, h1, h2⟩ := run_cut_to (P := Tryd.prog) (t := 43) (e := 22) Tryd.underlying43 hi hz1 hr u hhu hu
  refine ⟨a2, c2, h1, xs.take u, ?_, ⟨by rw [List.length_take, List.length_take, hb.1], fun i y hy => ?_⟩⟩
  · rw [List.length_take, hn, Nat.min_eq_left hu, ← Nat.mul_one u]; rw [Nat.mul_one] at h2 ⊢; exact h2
  · have hlt := (List.getElem?_eq_some_iff.1 hy).1
    rw [List.length_take] at hlt
    rw [List.getElem?_take] at hy
    split at hy
    · have := hb.2 i y hy
      rw [List.getD, List.getElem?_take, if_pos (by omega)]
      exact this
    · cases hy
set_option maxRecDepth 100000 in
set_option maxHeartbeats 8000000 in
theorem order_any (key : Nat) (l : List AC) (v : Value) (w : World) (hN : Cr.Nib w) (hkey : key < 18446744073709551616) (hv : Acs (fun b => b < w.heap.size) w v l) (hx : ∀ x ∈ l, AcOk x) :
    Calls Tryd.prog 6 #[.int .u64 (key : Int), v] w fun e w' => e = .returned (.bool true) ∧ Keeps (fun _ => False) w w' := by
  have HN : Hd (NibR w) := hid hN
  have HX := hid hx; have HKY := hid hkey
  obtain ⟨va, vc, rfl, hvc, hvm⟩ := hv.form
  have HV := hid hv
  have hpos := NibR.pos (hN : NibR w)
  clear hN hx hv hkey
  obtain ⟨L, hL⟩ : ∃ L, l.length = L := ⟨_, rfl⟩
  have HL := hid hL
  rw [hL] at HV hvc ⊢
  clear hL
  go_enter Tryd.func6, Tryd.ntmps6
  go_wp2_with fail
  refine (begin_any key _).mono ?_
  rintro e U1 ⟨p, rfl, hw0, hk0⟩
  have HW0 := hid hw0; have HK0 := hid hk0
  clear hw0 hk0
  go_wp2_with fail
  go_loopw [6] (fun iv wr => ∃ i : Nat, iv = .int .i64 (i : Int) ∧ i ≤ L ∧ i ≤ 120 ∧ Hd (WRx (fun b => w.heap.size ≤ b) (fun _ => True) wr p (hist key l i)) ∧ Hd (Keeps (fun b => w.heap.size ≤ b) w wr)) (fun iv _ => 120 - (intOf iv).toNat)
  case atStart => exact ⟨0, rfl, Nat.zero_le _, Nat.zero_le _, HW0, hid (HK0.out.mono (fun _ _ h => h.elim))⟩
  case round =>
    obtain ⟨V, rfl⟩ : ∃ V, V = wr := ⟨_, rfl⟩
    obtain ⟨i, rfl, hi1, hi2, HW, HK⟩ := hrel
    clear HW0 HK0
    have q0 : (0 : Int) ≤ i := by omega
    by_cases hlt : i < L
    · have q1 : (i : Int) < L := by omega
      by_cases hlt2 : i < 120
      · have q2 : (i : Int) < 120 := by omega
        have hil : i < l.length := by rw [HL.out]; exact hlt
        obtain ⟨x, hxi⟩ : ∃ x, l[i]? = some x := ⟨_, List.getElem?_eq_getElem hil⟩
        have HXI := hid hxi
        have HXO := hid (HX.out x (List.mem_of_getElem? hxi))
        have HVV := hid (HV.out.keep HK.out (fun b h1 h2 h3 => by omega))
        obtain ⟨vb, vo, eva, hvb, hvb2, hcx⟩ := acs_cells HVV.out (by omega)
        subst eva
        obtain ⟨c0, c1, c2, ad, cd, c3, hsx⟩ := hcx i x hxi
        have HSX := hid hsx
        clear hcx hsx hxi hil
        obtain ⟨xl, hxl⟩ : ∃ n, x.b.length = n := ⟨_, rfl⟩
        have HXL := hid hxl
        rw [hxl] at HSX c3
        clear hxl
        obtain ⟨M2, hM2⟩ : ∃ y, hist key l (i + 1) = y := ⟨_, rfl⟩
        have HM2 := hid hM2
        have HIO : Hd (WInv key M2 (i + 1) ∧ WOk M2 (i + 1)) := hid (by rw [← hM2]; exact hist_ok HKY.out HX.out (i + 1) (by omega) (by rw [HL.out]; omega))
        have HAC : Hd (Calls Tryd.prog 31 #[.pointer (some ⟨p, 0, none⟩), .agg #[.int .i64 x.kd, .int .i64 x.n, .int .i64 x.m, .slice ad xl cd]] V fun e w' => e = .returned (.tuple #[]) ∧ WRx (fun b => w.heap.size ≤ b) (fun _ => True) w' p M2 ∧ Keeps (fun b => w.heap.size ≤ b) V w') := hid (by
          have g := hist_ok HKY.out HX.out i (by omega) (by rw [HL.out]; omega)
          have zk := HK.out.size
          have h := act_any key (hist key l i) i p x ad cd (fun b => w.heap.size ≤ b) (fun _ => True) _ V HW.out (fun b hb => ⟨by omega, trivial⟩) HXO.out (by rw [HXL.out]; exact HSX.out) g.1 g.2 (by omega)
          rw [← hist_next HXI.out, hM2, HXL.out] at h
          exact h)
        clear hM2
        go_wp2_with fail
        refine HAC.out.mono ?_
        rintro e V2 ⟨rfl, hw2, hk2⟩
        have HK2 := hid (HK.out.trans hk2)
        clear c0 c1 c2 c3 HAC HW HK hk2 HVV
        obtain ⟨sa, sc, aa, ac, fa, fc, ra, rc, ga, gc, hw2⟩ := hw2
        have HW2 := hid hw2
        clear hw2
        obtain ⟨gn, hgn⟩ : ∃ n : Nat, M2.gt.length = n := ⟨_, rfl⟩
        obtain ⟨sn, hsn⟩ : ∃ n : Nat, M2.s.bs.length = n := ⟨_, rfl⟩
        have hgt := winv_gt HIO.out.1
        have hn0 := HIO.out.1.r.n0; have hn1 := HIO.out.1.r.n1; have hlk := HIO.out.1.r.lk
        have hnx : M2.r.nx = (gn : Int) := by rw [← hgn, hgt.1]; omega
        have hgs : gn ≤ sn := by rw [hnx, hsn] at hn1; omega
        have hgb : gn ≤ 121 := by have := hgt.2; omega
        have hsb : sn ≤ 121 := by have := HIO.out.1.bn; omega
        have hblk := HW2.out.blk
        rw [hgn, hsn, hnx, hlk] at hblk
        have HSB : Hd (Bds (fun _ => True) V2 (.slice sa sn sc) M2.s.bs) := hid (by have h := HW2.out.sb; rw [hsn] at h; exact h.mono (fun _ _ _ => trivial))
        have HGT : Hd (Bds (fun _ => True) V2 (.slice ga gn gc) M2.gt) := hid (by
          obtain ⟨xs, g1, g2⟩ := HW2.out.gt
          have h : Bds (fun _ => True) V2 (.slice ga M2.gt.length gc) M2.gt := ⟨xs, g1.row.mono (fun _ _ _ => trivial), g2.mono (fun _ _ _ => trivial)⟩
          rw [hgn] at h; exact h)
        obtain ⟨a5, c5, hcut, hb5⟩ := bds_to HSB.out hsn gn hgs (hh := (gn : Int)) rfl
        have HB5 := hid hb5
        have HEQ : Hd (M2.gt = M2.s.bs.take gn) := hid (by rw [HIO.out.1.g, hnx]; rfl)
        have HSM : Hd (∀ X, Keeps (fun _ => False) V2 X → Calls Tryd.prog 27 #[.slice ga gn gc, .slice a5 gn c5] X fun e w' => e = .returned (.bool true) ∧ Keeps (fun _ => False) X w') := hid (fun X hx => by
          have h := SameBodies_any _ _ _ _ M2.gt (M2.s.bs.take gn) X (HGT.out.keep hx (fun _ _ _ h => h)) (HB5.out.keep hx (fun _ _ _ h => h)) (fun y hy c hc => HIO.out.2.b y (by rw [HEQ.out] at hy; exact List.mem_of_mem_take hy) c hc) (fun y hy c hc => HIO.out.2.b y (List.mem_of_mem_take hy) c hc) (by rw [hgn]; omega)
          rw [decide_eq_true HEQ.out] at h
          exact h)
        have HG : Hd (gn ≤ sn) := hid hgs
        clear hgt hn0 hn1 hlk hnx hgn hsn hb5 hgs
        have r4 : V2.cell? ⟨p, 4, none⟩ = some (.int .i64 (gn : Int)) := blk_cell hblk 4
        have r6 : V2.cell? ⟨p, 6, none⟩ = some (.bool false) := blk_cell hblk 6
        have r11 : V2.cell? ⟨p, 11, none⟩ = some (.slice ga gn gc) := blk_cell hblk 11
        have r0 : V2.cell? ⟨p, 0, none⟩ = some (.slice sa sn sc) := blk_cell hblk 0
        have x4 : ∀ x : Ext V2, x.w.cell? ⟨p, 4, none⟩ = some (.int .i64 (gn : Int)) := ext_cell r4
        have x6 : ∀ x : Ext V2, x.w.cell? ⟨p, 6, none⟩ = some (.bool false) := ext_cell r6
        have x11 : ∀ x : Ext V2, x.w.cell? ⟨p, 11, none⟩ = some (.slice ga gn gc) := ext_cell r11
        have x0 : ∀ x : Ext V2, x.w.cell? ⟨p, 0, none⟩ = some (.slice sa sn sc) := ext_cell r0
        clear hblk
        have t1 : ((gn : Int) != (gn : Int)) = false := by simp
        have t0 : ((gn : Int) == (gn : Int)) = true := by simp
        have t2 : decide ((sn : Int) < (gn : Int)) = false := decide_eq_false (by have := HG.out; omega)
        have t4 : decide (sn < gn) = false := decide_eq_false (by have := HG.out; omega)
        have t3 : ¬ ((sn : Int) < (gn : Int)) := by have := HG.out; omega
        go_upto_region 7 with fail
        go_cut [69] from 31 to 69 (fun u69 wx => u69 = .bool false ∧ Hd (Keeps (fun _ => False) V2 wx))
        case first =>
          refine wp_region_ext (by kernel_rfl) (by kernel_rfl) ?_
          repeat (go_big_quiet_step (first | (go_at_call 27; exact ext_call (HSM.out _ (Ext.k _)))))
          refine wpQuiet_nil ?_
          rintro _ ⟨y, rfl⟩
          go_wp2_with fail
          go_meet
          exact ⟨rfl, hid y.k⟩
        case rest =>
        obtain ⟨rfl, hk3⟩ := hcut
        replace hk3 := hk3.out
        have HW3 := hid (HW2.out.keep hk3 (fun _ _ _ h => h))
        have HK3 := hid (HK2.out.trans' hk3 (fun _ _ h => h.elim))
        clear hk3 r4 r6 r11 r0 x4 x6 x11 x0 t0 t1 t2 t3 t4
        go_wp2
        go_roundw
        case rel => exact ⟨i + 1, by go_num, by omega, by omega, hid (by rw [HM2.out]; exact ⟨_, _, _, _, _, _, _, _, _, _, HW3.out⟩), HK3⟩
        case measure => simp [intOf]; omega
      · have q2 : ¬ ((i : Int) < 120) := by omega
        have HNV : Hd (NibR V) := hid (HN.out.keep HK.out (fun b h1 h2 h3 => by omega))
        go_wp2_with fail
        refine (lives_any _ HNV.out).mono ?_
        rintro e w9 ⟨rfl, hk⟩
        go_wp2
        go_ret
        exact ⟨rfl, (HK.out.trans' hk (fun _ _ h => h.elim)).mono (fun b h1 h2 => by omega)⟩
    · have q1 : ¬ ((i : Int) < L) := by omega
      have HNV : Hd (NibR V) := hid (HN.out.keep HK.out (fun b h1 h2 h3 => by omega))
      go_wp2_with fail
      refine (lives_any _ HNV.out).mono ?_
      rintro e w9 ⟨rfl, hk⟩
      go_wp2
      go_ret
      exact ⟨rfl, (HK.out.trans' hk (fun _ _ h => h.elim)).mono (fun b h1 h2 => by omega)⟩
end Go.Proofs.YthoikljmokkchaaDoor
