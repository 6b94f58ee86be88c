/- Frame: bodies from numbers; FrameCompletes walked. -/
import Derived.Test.YthoikljmokkchaaDoorFrWE
import Derived.Test.YthoikljmokkchaaDoorFrWG
import Derived.Deep.DrawnRows
namespace Go.Proofs.YthoikljmokkchaaDoor
open Go.RowKit
attribute [local go_sem ↓] Go.wp_at_zero Go.wp_at_succ
theorem quarter (n : Int) (h0 : -9223372036854775808 ≤ n) (h1 : n ≤ 9223372036854775807) : -2305843009213693953 ≤ n.tdiv 4 ∧ n.tdiv 4 ≤ 2305843009213693953 := by
  have h := Int.tmod_add_mul_tdiv n 4
  have hr : -4 < n.tmod 4 ∧ n.tmod 4 < 4 := by
    rcases Int.lt_or_le n 0 with hn | hn
    · have h3 := Int.neg_tmod (a := -n) (b := 4)
      rw [Int.neg_neg, Int.tmod_eq_emod_of_nonneg (a := -n) (b := 4) (by omega)] at h3
      omega
    · rw [Int.tmod_eq_emod_of_nonneg hn]; omega
  omega
set_option maxRecDepth 100000 in
set_option maxHeartbeats 4000000 in
theorem Body_any (n : Int) (w : World) (h0 : -9223372036854775808 ≤ n) (h1 : n ≤ 9223372036854775807) :
    Calls Tryd.prog 33 #[.int .i64 n] w fun e w' => ∃ (b : List Nat) (a : Option Addr) (c : Nat), e = .returned (.slice a b.length c) ∧ b.length ≤ 4 ∧ (∀ x ∈ b, x < 256) ∧ Sl (fun k => w.heap.size ≤ k) w' (.slice a b.length c) (u8s b) ∧ Keeps (fun _ => False) w w' := by
  obtain ⟨i0, hi, hz0, hz1, hz2⟩ := parts1 Wi.infoU8
  obtain ⟨q, hq⟩ : ∃ q, n.tdiv 4 = q := ⟨_, rfl⟩
  have hqb := quarter n h0 h1
  rw [hq] at hqb
  have hqw : IntKind.i64.wrap q = q := IntWalk.i64_in _ (by omega)
  obtain ⟨kk, hkk⟩ : ∃ k, around n 4 = k := ⟨_, rfl⟩
  have HKK := hid hkk
  have hkb := around_b n (show (1 : Int) ≤ 4 by omega)
  rw [hkk] at hkb
  clear hkk
  go_enter Tryd.func33, Tryd.ntmps33
  go_wp2_with fail
  refine (Around_any n 4 _ h0 h1 (by decide) (by decide)).mono ?_
  rw [HKK.out]
  rintro e wx ⟨rfl, rfl⟩
  go_wp2_with fail
  go_loopw [3, 5] (fun ov iv wr => ∃ (k : Nat) (a : Option Addr) (c : Nat) (b : List Nat), ov = .slice a k c ∧ iv = .int .i64 (k : Int) ∧ Hd (b.length = k) ∧ (k : Int) ≤ kk ∧ Hd (∀ x ∈ b, x < 256) ∧ Hd (Own (fun g => w.heap.size ≤ g) wr 5 1 (.slice a k c) k (u8s b)) ∧ Hd (Keeps (fun _ => False) w wr)) (fun _ iv _ => kk.toNat - (intOf iv).toNat)
  case atStart => exact ⟨0, none, 0, [], rfl, rfl, hid rfl, hkb.1, hid (fun x h => by cases h), hid (Own.nil _ _ _ _), hid (Keeps.refl _ _)⟩
  case round =>
    obtain ⟨V, rfl⟩ : ∃ V, V = wr := ⟨_, rfl⟩
    obtain ⟨k, a, c, b, rfl, rfl, HBL, hk1, HBB, HO, HK⟩ := hrel
    by_cases hlt : (k : Int) < kk
    · have q0 : (0 : Int) ≤ k := by omega
      have hs : IntKind.i64.wrap (q + (k : Int)) = q + (k : Int) := IntWalk.i64_in _ (by omega)
      obtain ⟨r, hr⟩ : ∃ r, around (q + (k : Int)) 256 = r := ⟨_, rfl⟩
      have HR := hid hr
      have hrb := around_b (q + (k : Int)) (show (1 : Int) ≤ 256 by omega)
      rw [hr] at hrb
      clear hr
      obtain ⟨rn, hrn⟩ : ∃ n : Nat, r = (n : Int) := ⟨r.toNat, by omega⟩
      subst hrn
      have h8 : IntKind.u8.wrap (rn : Int) = (rn : Int) := IntWalk.u8_in _ (by omega)
      go_wp2_with fail
      refine (Around_any (q + (k : Int)) 256 _ (by omega) (by omega) (by decide) (by decide)).mono ?_
      rw [HR.out]
      rintro e wx ⟨rfl, rfl⟩
      go_wp2_with (at_builtin; refine wpList_append_row rfl _ _ 22 rfl 5 i0 (.int .u8 0) 1 1 Tryd.underlying22 hi hz0 hz1 hz2 rfl (by decide) _ (fun _ => True) _ _ _ _ rfl (HO.out.alloc _) 1 _ rfl (src_one _ _ trivial) (by intro u hu; simp at hu; subst hu; rfl) ?h1 ?h2 ?_)
      case h1 => simp [maxLen]; omega
      case h2 => omega
      intro a1 c1 w1 hown hgrow; try intro _
      have HO1 : Hd (Own (fun g => w.heap.size ≤ g) w1 5 1 (.slice a1 (k + 1) c1) (k + 1) (u8s (b ++ [rn]))) := hid (by
        have hz := HK.out.size
        have h := hown.mono (K' := fun g => w.heap.size ≤ g) (fun g _ h => by rcases h with h | h; exact h; have h' := h; (try simp at h'); omega)
        rw [u8s_append]; exact h)
      have HK1 : Hd (Keeps (fun _ => False) w w1) := hid ((HK.out.alloc _).trans' hgrow (fun i hi h => by omega))
      clear hown hgrow
      go_wp2
      go_roundw
      case rel => exact ⟨k + 1, a1, c1, b ++ [rn], by first | rfl | go_num, by go_num, hid (by rw [List.length_append, HBL.out]; rfl), by push_cast; omega, hid (fun x hx => by rcases List.mem_append.1 hx with h | h; exact HBB.out x h; (rw [List.mem_singleton.1 h]; omega)), HO1, HK1⟩
      case measure => simp [intOf]; omega
    · go_wp2
      go_ret
      exact ⟨b, a, c, by rw [HBL.out]; rfl, by have := HBL.out; omega, HBB.out, by rw [HBL.out]; exact row_sl HO.out.row (by rw [u8s_length]; exact HBL.out), HK.out⟩
def ldU : Op := Op.load 43 (.tmp 64)
theorem ldU_eq : Op.load 43 (.tmp 64) = ldU := rfl
attribute [local go_sem] ldU
def ldV : Op := Op.load 43 (.tmp 69)
theorem ldV_eq : Op.load 43 (.tmp 69) = ldV := rfl
attribute [local go_sem] ldV
theorem bdo_bds {D : Nat → Prop} {w : World} {v : Value} {l : List (List Nat)} (h : BdO D w v l) : Bds (fun _ => True) w v l := by
  obtain ⟨xs, h1, h2⟩ := h
  exact ⟨xs, h1.row.mono (fun _ _ _ => trivial), h2.mono (fun _ _ _ => trivial)⟩
theorem WOk.queue {m : WM} {n : Nat} (h : WOk m n) {b : List Nat} (hb : ∀ c ∈ b, c < 256) : WOk ⟨⟨m.s.bs ++ [b], m.s.a, m.s.l⟩, m.r, m.fs, m.rp, m.gt⟩ (n + 1) := by
  refine ⟨(h.mono (Nat.le_succ n)).r, h.f, fun x hx => ?_, h.l⟩
  rcases List.mem_append.1 hx with hx | hx
  · exact h.b x hx
  · rw [List.mem_singleton.1 hx]; exact hb
set_option maxRecDepth 100000 in
set_option maxHeartbeats 8000000 in
theorem completes_any (key : Nat) (l : List AC) (v v2 : Value) (l2 : List Int) (w : World) (hN : Cr.Nib w) (hkey : key < 18446744073709551616) (hv : Acs (fun b => b < w.heap.size) w v l) (hx : ∀ x ∈ l, AcOk x) (hs2 : Sl (fun b => b < w.heap.size) w v2 (i64s l2)) (hl2 : ∀ x ∈ l2, -9223372036854775808 ≤ x ∧ x ≤ 9223372036854775807) :
    Calls Tryd.prog 7 #[.int .u64 (key : Int), v, v2] w fun e w' => e = .returned (.bool true) ∧ Keeps (fun _ => False) w w' := by
  have HN : Hd (NibR w) := hid hN
  have HX := hid hx; have HKY := hid hkey; have HL2 := hid hl2; have HS2 := hid hs2
  obtain ⟨va, vc, rfl, hvc, hvm⟩ := hv.form
  obtain ⟨va2, vc2, rfl, hvc2, hvm2, -⟩ := hs2.ints
  have HV := hid hv
  have hpos := NibR.pos (hN : NibR w)
  clear hN hx hv hkey hs2 hl2
  obtain ⟨L, hL⟩ : ∃ L, l.length = L := ⟨_, rfl⟩
  have HL := hid hL
  rw [hL] at HV hvc ⊢
  clear hL
  obtain ⟨Lm, hLm⟩ : ∃ L, l2.length = L := ⟨_, rfl⟩
  have HLm := hid hLm
  rw [hLm] at HS2 hvc2 ⊢
  clear hLm
  go_enter Tryd.func7, Tryd.ntmps7
  go_wp2_with fail
  refine (begin_any key _).mono ?_
  rintro e U1 ⟨p, rfl, hw0, hk0⟩
  have HW0 := hid hw0; have HK0 := hid hk0
  clear hw0 hk0
  go_wp2_with fail
  go_loopw [8] (fun iv wr => ∃ i : Nat, iv = .int .i64 (i : Int) ∧ i ≤ L ∧ i ≤ 80 ∧ Hd (WRx (fun b => w.heap.size ≤ b) (fun _ => True) wr p (hist key l i)) ∧ Hd (Keeps (fun b => w.heap.size ≤ b) w wr)) (fun iv _ => 80 - (intOf iv).toNat)
  case atStart => exact ⟨0, rfl, Nat.zero_le _, Nat.zero_le _, HW0, hid (HK0.out.mono (fun _ _ h => h.elim))⟩
  case round =>
    obtain ⟨V, rfl⟩ : ∃ V, V = wr := ⟨_, rfl⟩
    obtain ⟨i, rfl, hi1, hi2, HW, HK⟩ := hrel
    clear HW0 HK0
    have q0 : (0 : Int) ≤ i := by omega
    have HGO : Hd (i = L ∨ i = 80 → ∃ m, WInv key m i ∧ WOk m i ∧ WRx (fun b => w.heap.size ≤ b) (fun _ => True) V p m) := hid (fun _ => ⟨_, (hist_ok HKY.out HX.out i (by omega) (by rw [HL.out]; omega)).1, (hist_ok HKY.out HX.out i (by omega) (by rw [HL.out]; omega)).2, HW.out⟩)
    by_cases hgo : i < L ∧ i < 80
    · obtain ⟨hlt, hlt2⟩ := hgo
      have q1 : (i : Int) < L := by omega
      have q2 : (i : Int) < 80 := by omega
      have hil : i < l.length := by rw [HL.out]; exact hlt
      obtain ⟨x, hxi⟩ : ∃ x, l[i]? = some x := ⟨_, List.getElem?_eq_getElem hil⟩
      have HXI := hid hxi
      have HXO := hid (HX.out x (List.mem_of_getElem? hxi))
      have HVV := hid (HV.out.keep HK.out (fun b h1 h2 h3 => by omega))
      obtain ⟨vb, vo, eva, hvb, hvb2, hcx⟩ := acs_cells HVV.out (by omega)
      subst eva
      obtain ⟨c0, c1, c2, ad, cd, c3, hsx⟩ := hcx i x hxi
      have HSX := hid hsx
      clear hcx hsx hxi hil
      obtain ⟨xl, hxl⟩ : ∃ n, x.b.length = n := ⟨_, rfl⟩
      have HXL := hid hxl
      rw [hxl] at HSX c3
      clear hxl
      have HAC : Hd (Calls Tryd.prog 31 #[.pointer (some ⟨p, 0, none⟩), .agg #[.int .i64 x.kd, .int .i64 x.n, .int .i64 x.m, .slice ad xl cd]] V fun e w' => e = .returned (.tuple #[]) ∧ WRx (fun b => w.heap.size ≤ b) (fun _ => True) w' p (hist key l (i + 1)) ∧ Keeps (fun b => w.heap.size ≤ b) V w') := hid (by
        have g := hist_ok HKY.out HX.out i (by omega) (by rw [HL.out]; omega)
        have zk := HK.out.size
        have h := act_any key (hist key l i) i p x ad cd (fun b => w.heap.size ≤ b) (fun _ => True) _ V HW.out (fun b hb => ⟨by omega, trivial⟩) HXO.out (by rw [HXL.out]; exact HSX.out) g.1 g.2 (by omega)
        rw [← hist_next HXI.out, HXL.out] at h
        exact h)
      go_wp2_with fail
      refine HAC.out.mono ?_
      rintro e V2 ⟨rfl, hw2, hk2⟩
      have HK2 := hid (HK.out.trans hk2); have HW2 := hid hw2
      clear c0 c1 c2 c3 HAC HW HK hk2 hw2 HVV HGO
      go_wp2
      go_roundw
      case rel => exact ⟨i + 1, by go_num, by omega, by omega, HW2, HK2⟩
      case measure => simp [intOf]; omega
    · obtain ⟨M, hM1, hM2, hM3⟩ := HGO.out (by omega)
      have HM1 := hid (winv_mono hM1 hi2); have HM2 := hid (hM2.mono hi2); have HM3 := hid hM3
      clear hM1 hM2 hM3 HW HGO
      go_upto_region 3 with fail
      go_cut [21] from 14 to 21 (fun u21 wx => u21 = .bool false ∧ V = wx)
      case first =>
        by_cases hlt : i < L
        · have q1 : (i : Int) < L := by omega
          have q2 : ¬ ((i : Int) < 80) := by omega
          go_wp2_with fail
          go_meet
          exact ⟨rfl, rfl⟩
        · have q1 : ¬ ((i : Int) < L) := by omega
          go_wp2_with fail
          go_meet
          exact ⟨rfl, rfl⟩
      case rest =>
      obtain ⟨rfl, rfl⟩ := hcut
      clear hgo
      go_wp2_with fail
      go_loopw [9] (fun iv wr => ∃ (j : Nat) (M : WM), iv = .int .i64 (j : Int) ∧ j ≤ Lm ∧ j ≤ 60 ∧ Hd (WInv key M (80 + j)) ∧ Hd (WOk M (80 + j)) ∧ Hd (WRx (fun b => w.heap.size ≤ b) (fun _ => True) wr p M) ∧ Hd (Keeps (fun b => w.heap.size ≤ b) w wr)) (fun iv _ => 60 - (intOf iv).toNat)
      case atStart => exact ⟨0, M, rfl, Nat.zero_le _, Nat.zero_le _, HM1, HM2, HM3, HK⟩
      case round =>
        obtain ⟨V2, rfl⟩ : ∃ V2, V2 = wr := ⟨_, rfl⟩
        clear HM1 HM2 HM3 HK q0
        obtain ⟨j, M, rfl, hj1, hj2, HM1, HM2, HM3, HK⟩ := hrel
        have q0 : (0 : Int) ≤ j := by omega
        have zV := HK.out.size
        by_cases hgo : j < Lm ∧ j < 60
        · obtain ⟨hlt, hlt2⟩ := hgo
          have q1 : (j : Int) < Lm := by omega
          have q2 : (j : Int) < 60 := by omega
          obtain ⟨y, hy⟩ : ∃ y, l2[j]? = some y := ⟨l2[j]'(by rw [HLm.out]; exact hlt), List.getElem?_eq_getElem _⟩
          have hyb := HL2.out y (List.mem_of_getElem? hy)
          have HS := hid (HS2.out.keep HK.out (fun b h1 h2 h3 => by omega))
          obtain ⟨al, cl, eal, -, -, hcx⟩ := HS.out.ints
          injection eal with ea1 ea2 ea3
          subst ea1
          obtain ⟨bl, ol, rfl, -, -, hcell⟩ := hcx (by rw [HLm.out]; omega)
          have hcy : V2.cell? ⟨bl, ol + j, none⟩ = some (.int .i64 y) := by rw [hcell j (by rw [HLm.out]; exact hlt), List.getD, hy]; rfl
          clear hcx hcell ea2 ea3 hy HS
          obtain ⟨sa, sc, aa, ac, fa, fc, ra, rc, ga, gc, hw⟩ := HM3.out
          have HW := hid hw
          have HML := hid (WR.lt hw)
          clear hw HM3
          obtain ⟨⟨bs, a, ⟨k2, i2⟩⟩, ⟨nx, fs, lk, ⟨rk, ri⟩⟩, FSq, RP, GT⟩ := M
          have HBP := hid HW.out.blk
          have HSB := hid HW.out.sb
          simp only [] at HBP HSB
          have hbn : bs.length ≤ 80 + j := HM1.out.bn
          obtain ⟨sn, hsn⟩ : ∃ n, bs.length = n := ⟨_, rfl⟩
          have N_sn := hid hsn
          rw [hsn] at HBP HSB hbn
          clear hsn
          obtain ⟨fn, hfn⟩ : ∃ n, fs.length = n := ⟨_, rfl⟩
          have N_fn := hid hfn
          rw [hfn] at HBP
          clear hfn
          obtain ⟨f2n, hf2n⟩ : ∃ n, FSq.length = n := ⟨_, rfl⟩
          have N_f2n := hid hf2n
          rw [hf2n] at HBP
          clear hf2n
          obtain ⟨rpn, hrpn⟩ : ∃ n, RP.length = n := ⟨_, rfl⟩
          have N_rpn := hid hrpn
          rw [hrpn] at HBP
          clear hrpn
          obtain ⟨gn, hgn⟩ : ∃ n, GT.length = n := ⟨_, rfl⟩
          have N_gn := hid hgn
          rw [hgn] at HBP
          clear hgn
          have HQ : Hd (∀ X b a5 c5 K2, Keeps (fun _ => False) V2 X → b.length ≤ 4 → Sl K2 X (.slice a5 b.length c5) (u8s b) → Calls Tryd.prog 32 #[.agg #[.slice sa sn sc, .int .i64 a, .int .u64 (k2 : Int), .int .i64 i2], .slice a5 b.length c5] X fun e w' => ∃ a2 c2, e = .returned (.tuple #[.agg #[.slice a2 (sn + 1) c2, .int .i64 a, .int .u64 (k2 : Int), .int .i64 i2], .int .i64 0]) ∧ Bds (fun b => X.heap.size ≤ b) w' (.slice a2 (sn + 1) c2) (bs ++ [b]) ∧ Keeps (fun _ => False) X w') := hid (fun X b a5 c5 K2 hx hb hs => by have h := Queue_ok bs sa sc a k2 i2 b _ K2 a5 c5 X (by rw [N_sn.out]; exact HSB.out.keep hx (fun _ _ _ h => h)) (by rw [N_sn.out]; omega) HM1.out.bl (by omega) hs; rw [N_sn.out] at h; exact h)
          have HCY := hid hcy
          clear hcy HSB
          go_upto_region 9 with fail
          go_cut [11, 10] from 40 to 52 (fun u11 u10 wx => ∃ (b : List Nat), ∃ (a2 : Option Addr), ∃ (c2 : Nat), u11 = (.int .i64 0) ∧ ∃ bx, u10 = .pointer (some ⟨bx, 0, none⟩) ∧ V2.heap.size ≤ bx ∧ Hd (Blk wx bx #[(.slice a2 (sn + 1) c2), (.int .i64 a), (.int .u64 (k2 : Int)), (.int .i64 i2)] 57) ∧ Hd (Bds (fun b => V2.heap.size ≤ b) wx (.slice a2 (sn + 1) c2) (bs ++ [b])) ∧ Hd (b.length ≤ 4) ∧ Hd (∀ c ∈ b, c < 256) ∧ Hd (Keeps (fun _ => False) V2 wx))
          case first =>
            have KC : Hd (Keeps (fun _ => False) V2 V2) := hid (Keeps.refl _ _)
            have HSS : Hd (∀ w', Keeps (fun _ => False) V2 w' → (w'.cell? ⟨p, 0, none⟩ = some ((.slice sa sn sc)) ∧ w'.cell? ⟨p, 1, none⟩ = some ((.int .i64 a)) ∧ w'.cell? ⟨p, 2, none⟩ = some ((.int .u64 (k2 : Int))) ∧ w'.cell? ⟨p, 3, none⟩ = some ((.int .i64 i2)) ∧ w'.cell? ⟨bl, ol + j, none⟩ = some (.int .i64 y))) := hid (fun w' hk => ⟨blk_cell (blk_keep HBP.out hk (fun h => h)) 0, blk_cell (blk_keep HBP.out hk (fun h => h)) 1, blk_cell (blk_keep HBP.out hk (fun h => h)) 2, blk_cell (blk_keep HBP.out hk (fun h => h)) 3, keep_cell hk (fun h => h) HCY.out⟩)
            go_region_held (fun w' => w'.cell? ⟨p, 0, none⟩ = some ((.slice sa sn sc)) ∧ w'.cell? ⟨p, 1, none⟩ = some ((.int .i64 a)) ∧ w'.cell? ⟨p, 2, none⟩ = some ((.int .u64 (k2 : Int))) ∧ w'.cell? ⟨p, 3, none⟩ = some ((.int .i64 i2)) ∧ w'.cell? ⟨bl, ol + j, none⟩ = some (.int .i64 y)) (exact HSS.out _ (by repeat (first | (with_reducible refine Keeps.setCell (S := fun _ => False) ?_ (.inl (by first | (with_reducible rfl) | (simp <;> fail) | fail)) _) | (with_reducible apply Keeps.drewN) | (with_reducible apply Keeps.drew) | (with_reducible apply Keeps.alloc) | (refine Keeps.setCell (S := fun _ => False) ?_ (.inr (by first | exact Nat.le_refl _ | omega | (simp; omega) | fail)) _) | (with_reducible exact KC.out) | (with_reducible exact Keeps.refl _ _) | (with_reducible exact KC.out.mono (fun _ _ h => h.elim)))))
              (first
              | (go_at_call 33; (refine (Body_any y _ hyb.1 hyb.2).mono ?_); rintro e wy0 ⟨b, ab, cb, rfl, hb1, hb2, hsl, hk⟩; (try (replace LNB := hid (Keeps.trans (S := fun _ => False) (by repeat (first | (with_reducible exact LNB.out) | (with_reducible exact Keeps.refl _ _) | (with_reducible apply Keeps.drewN) | (with_reducible apply Keeps.drew) | (with_reducible apply Keeps.alloc))) hk))); (first | (have HNBX := HNB; clear HNBX) | (have HNB : Hd (∀ Vz, Keeps (fun _ => False) wy0 Vz → Blk Vz V2.heap.size #[(.slice none 0 0), (.int .i64 0), (.int .u64 0), (.int .i64 0)] 57) := hid (fun Vz hv => blk_keep (blk_keep (by (repeat (first | (with_reducible apply blk_drewN) | (with_reducible apply blk_drew) | (with_reducible refine blk_new' _ _ _ _ ?_) | (with_reducible apply blk_alloc))); (first | (with_reducible rfl) | (simp only [World.size_alloc, World.size_drew] <;> fail) | (simp <;> fail))) hk (fun h => h)) hv (fun h => h)); have LNB : Hd (Keeps (fun _ => False) wy0 wy0) := hid (Keeps.refl _ _); have hnbx : V2.heap.size ≤ V2.heap.size := by first | exact Nat.le_refl _ | omega | fail) | skip); (try (have nF0 := blk_cell (HNB.out _ LNB.out) 0; have nG0 := blk_free (HNB.out _ LNB.out) 0; have nF1 := blk_cell (HNB.out _ LNB.out) 1; have nG1 := blk_free (HNB.out _ LNB.out) 1; have nF2 := blk_cell (HNB.out _ LNB.out) 2; have nG2 := blk_free (HNB.out _ LNB.out) 2; have nF3 := blk_cell (HNB.out _ LNB.out) 3; have nG3 := blk_free (HNB.out _ LNB.out) 3)); have KC2 : Hd (Keeps (fun _ => False) V2 wy0) := hid (Keeps.trans (S := fun _ => False) (by repeat (first | (with_reducible exact KC.out) | (with_reducible exact Keeps.refl _ _) | (with_reducible apply Keeps.drewN) | (with_reducible apply Keeps.drew) | (with_reducible apply Keeps.alloc))) hk); have zc := KC.out.size; have zk := hk.size; (try simp at zk); have HB1 := hid hb1; have HB2 := hid hb2; have HSLB : Hd (∀ X, Keeps (fun _ => False) wy0 X → Sl (fun _ => True) X (.slice ab b.length cb) (u8s b)) := hid (fun X hx => (hsl.mono (fun _ _ _ => trivial)).keep hx (fun _ _ _ h => h)); clear hb1 hb2 hsl; replace KC := KC2; clear KC2; replace hk := hid hk)
              | (go_at_call 32; (refine (HQ.out _ _ _ _ _ (by repeat (first | (with_reducible exact KC.out) | (with_reducible exact Keeps.refl _ _) | (with_reducible apply Keeps.drewN) | (with_reducible apply Keeps.drew) | (with_reducible apply Keeps.alloc))) HB1.out (HSLB.out _ (by repeat (first | (with_reducible exact Keeps.refl _ _) | (with_reducible apply Keeps.drewN) | (with_reducible apply Keeps.drew) | (with_reducible apply Keeps.alloc))))).mono ?_); rintro e wy1 ⟨a2, c2, rfl, hbd, hk⟩; (try (replace LNB := hid (Keeps.trans (S := fun _ => False) (by repeat (first | (with_reducible exact LNB.out) | (with_reducible exact Keeps.refl _ _) | (with_reducible apply Keeps.drewN) | (with_reducible apply Keeps.drew) | (with_reducible apply Keeps.alloc))) hk))); (first | (have HNBX := HNB; clear HNBX) | (have HNB : Hd (∀ Vz, Keeps (fun _ => False) wy1 Vz → Blk Vz V2.heap.size #[(.slice none 0 0), (.int .i64 0), (.int .u64 0), (.int .i64 0)] 57) := hid (fun Vz hv => blk_keep (blk_keep (by (repeat (first | (with_reducible apply blk_drewN) | (with_reducible apply blk_drew) | (with_reducible refine blk_new' _ _ _ _ ?_) | (with_reducible apply blk_alloc))); (first | (with_reducible rfl) | (simp only [World.size_alloc, World.size_drew] <;> fail) | (simp <;> fail))) hk (fun h => h)) hv (fun h => h)); have LNB : Hd (Keeps (fun _ => False) wy1 wy1) := hid (Keeps.refl _ _); have hnbx : V2.heap.size ≤ V2.heap.size := by first | exact Nat.le_refl _ | omega | fail) | (have HNB : Hd (∀ Vz, Keeps (fun _ => False) wy1 Vz → Blk Vz wy0.heap.size #[(.slice none 0 0), (.int .i64 0), (.int .u64 0), (.int .i64 0)] 57) := hid (fun Vz hv => blk_keep (blk_keep (by (repeat (first | (with_reducible apply blk_drewN) | (with_reducible apply blk_drew) | (with_reducible refine blk_new' _ _ _ _ ?_) | (with_reducible apply blk_alloc))); (first | (with_reducible rfl) | (simp only [World.size_alloc, World.size_drew] <;> fail) | (simp <;> fail))) hk (fun h => h)) hv (fun h => h)); have LNB : Hd (Keeps (fun _ => False) wy1 wy1) := hid (Keeps.refl _ _); have hnbx : V2.heap.size ≤ wy0.heap.size := by first | exact Nat.le_refl _ | omega | fail) | skip); (try (have nF0 := blk_cell (HNB.out _ LNB.out) 0; have nG0 := blk_free (HNB.out _ LNB.out) 0; have nF1 := blk_cell (HNB.out _ LNB.out) 1; have nG1 := blk_free (HNB.out _ LNB.out) 1; have nF2 := blk_cell (HNB.out _ LNB.out) 2; have nG2 := blk_free (HNB.out _ LNB.out) 2; have nF3 := blk_cell (HNB.out _ LNB.out) 3; have nG3 := blk_free (HNB.out _ LNB.out) 3)); have KC2 : Hd (Keeps (fun _ => False) V2 wy1) := hid (Keeps.trans (S := fun _ => False) (by repeat (first | (with_reducible exact KC.out) | (with_reducible exact Keeps.refl _ _) | (with_reducible apply Keeps.drewN) | (with_reducible apply Keeps.drew) | (with_reducible apply Keeps.alloc))) hk); have zc := KC.out.size; have zk := hk.size; (try simp at zk); have HBD := hid (bds_after hbd (n := V2.heap.size) (by first | exact Nat.le_refl _ | (simp; done) | (simp; omega) | (have := KC.out.size; (try simp); omega) | fail)); clear hbd; replace KC := KC2; clear KC2; replace hk := hid hk))
            all_goals
              go_wp2_with fail
              go_meet
              exact ⟨b, a2, c2, rfl, _, rfl, (by first | exact Nat.le_refl _ | omega | (simp <;> fail) | (simp; omega) | fail), hid (by repeat (first | (with_reducible exact HNB.out _ LNB.out) | (with_reducible refine blkset4 (c0 := (.slice none 0 0)) (c1 := (.int .i64 0)) (c2 := (.int .u64 0)) (c3 := (.int .i64 0)) ?_) | (with_reducible refine blk_new' _ _ _ _ (by first | (with_reducible rfl) | (simp only [World.size_alloc, World.size_drew] <;> fail) | (simp <;> fail) | (simp; omega) | fail)) | (with_reducible refine blk_other ?_ (by first | omega | (simp only [World.size_alloc, World.size_drew]; omega) | fail) _ _) | (with_reducible apply blk_drewN) | (with_reducible apply blk_drew) | (with_reducible refine blk_alloc ?_ _))), hid (HBD.out _ (by repeat (first | (with_reducible exact Keeps.refl _ _) | (with_reducible apply Keeps.drewN) | (with_reducible apply Keeps.drew) | (with_reducible apply Keeps.alloc) | (refine Keeps.setCell ?_ (by first | exact .inr (Nat.le_refl _) | exact .inr (by simp; omega) | exact .inl ⟨by first | exact Nat.le_refl _ | omega | (simp; omega) | fail, by first | omega | (simp <;> fail) | (simp; omega) | fail⟩ | fail) _)))), HB1, HB2, hid (by repeat (first | (with_reducible refine Keeps.setCell (S := fun _ => False) ?_ (.inl (by first | (with_reducible rfl) | (simp <;> fail) | fail)) _) | (with_reducible apply Keeps.drewN) | (with_reducible apply Keeps.drew) | (with_reducible apply Keeps.alloc) | (refine Keeps.setCell (S := fun _ => False) ?_ (.inr (by first | exact Nat.le_refl _ | omega | (simp; omega) | fail)) _) | (with_reducible exact KC.out) | (with_reducible exact Keeps.refl _ _) | (with_reducible exact KC.out.mono (fun _ _ h => h.elim))))⟩
          case rest =>
            obtain ⟨b, a2, c2, rfl, b_S, rfl, hb_S, B_S, M_0, M_1, M_2, hk⟩ := hcut
            replace hk := hk.out
            generalize wc = W31 at *
            have HBP' : Hd (Blk W31 p #[(.slice sa sn sc), (.int .i64 a), (.int .u64 (k2 : Int)), (.int .i64 i2), (.int .i64 nx), (.slice aa fn ac), (.bool lk), (.int .u64 (rk : Int)), (.int .i64 ri), (.slice fa f2n fc), (.slice ra rpn rc), (.slice ga gn gc)] 60) := hid (blk_keep HBP.out hk (fun h => by exact h))
            have HW' : Hd (WR (fun b => w.heap.size ≤ b) (fun _ => True) W31 p ⟨⟨bs, a, ⟨k2, i2⟩⟩, ⟨nx, fs, lk, ⟨rk, ri⟩⟩, FSq, RP, GT⟩ sa sc aa ac fa fc ra rc ga gc) := hid (HW.out.keep hk (fun _ _ _ h => h))
            clear HBP HW
            have HBP := HBP'
            clear HBP'
            have HW := HW'
            clear HW'
            have HKL := HK
            clear HK
            have HK : Hd (Keeps (fun _ => False) V2 W31) := hid hk
            have z_W31 := hk.size
            clear hk
            have lt_S := blk_lt B_S.out
            clear HQ HCY
            have zp := HML.out p (.inl rfl)
            have nePS : b_S ≠ p := by omega
            have o_HBP_0 : W31.cell? ⟨p, 0, none⟩ = some ((.slice sa sn sc)) := blk_cell HBP.out 0
            have o_HBP_1 : W31.cell? ⟨p, 1, none⟩ = some ((.int .i64 a)) := blk_cell HBP.out 1
            have o_HBP_2 : W31.cell? ⟨p, 2, none⟩ = some ((.int .u64 (k2 : Int))) := blk_cell HBP.out 2
            have o_HBP_3 : W31.cell? ⟨p, 3, none⟩ = some ((.int .i64 i2)) := blk_cell HBP.out 3
            have o_HBP_4 : W31.cell? ⟨p, 4, none⟩ = some ((.int .i64 nx)) := blk_cell HBP.out 4
            have o_HBP_5 : W31.cell? ⟨p, 5, none⟩ = some ((.slice aa fn ac)) := blk_cell HBP.out 5
            have o_HBP_6 : W31.cell? ⟨p, 6, none⟩ = some ((.bool lk)) := blk_cell HBP.out 6
            have o_HBP_7 : W31.cell? ⟨p, 7, none⟩ = some ((.int .u64 (rk : Int))) := blk_cell HBP.out 7
            have o_HBP_8 : W31.cell? ⟨p, 8, none⟩ = some ((.int .i64 ri)) := blk_cell HBP.out 8
            have o_HBP_9 : W31.cell? ⟨p, 9, none⟩ = some ((.slice fa f2n fc)) := blk_cell HBP.out 9
            have o_HBP_10 : W31.cell? ⟨p, 10, none⟩ = some ((.slice ra rpn rc)) := blk_cell HBP.out 10
            have o_HBP_11 : W31.cell? ⟨p, 11, none⟩ = some ((.slice ga gn gc)) := blk_cell HBP.out 11
            have f_HBP_0 : W31.frozen? ⟨p, 0, none⟩ = false := blk_free HBP.out 0
            have f_HBP_1 : W31.frozen? ⟨p, 1, none⟩ = false := blk_free HBP.out 1
            have f_HBP_2 : W31.frozen? ⟨p, 2, none⟩ = false := blk_free HBP.out 2
            have f_HBP_3 : W31.frozen? ⟨p, 3, none⟩ = false := blk_free HBP.out 3
            have f_HBP_4 : W31.frozen? ⟨p, 4, none⟩ = false := blk_free HBP.out 4
            have f_HBP_5 : W31.frozen? ⟨p, 5, none⟩ = false := blk_free HBP.out 5
            have f_HBP_6 : W31.frozen? ⟨p, 6, none⟩ = false := blk_free HBP.out 6
            have f_HBP_7 : W31.frozen? ⟨p, 7, none⟩ = false := blk_free HBP.out 7
            have f_HBP_8 : W31.frozen? ⟨p, 8, none⟩ = false := blk_free HBP.out 8
            have f_HBP_9 : W31.frozen? ⟨p, 9, none⟩ = false := blk_free HBP.out 9
            have f_HBP_10 : W31.frozen? ⟨p, 10, none⟩ = false := blk_free HBP.out 10
            have f_HBP_11 : W31.frozen? ⟨p, 11, none⟩ = false := blk_free HBP.out 11
            have o_B_S_0 : W31.cell? ⟨b_S, 0, none⟩ = some ((.slice a2 (sn + 1) c2)) := blk_cell B_S.out 0
            have o_B_S_1 : W31.cell? ⟨b_S, 1, none⟩ = some ((.int .i64 a)) := blk_cell B_S.out 1
            have o_B_S_2 : W31.cell? ⟨b_S, 2, none⟩ = some ((.int .u64 (k2 : Int))) := blk_cell B_S.out 2
            have o_B_S_3 : W31.cell? ⟨b_S, 3, none⟩ = some ((.int .i64 i2)) := blk_cell B_S.out 3
            go_wp2
            clear o_HBP_0 o_HBP_1 o_HBP_2 o_HBP_3 o_HBP_4 o_HBP_5 o_HBP_6 o_HBP_7 o_HBP_8 o_HBP_9 o_HBP_10 o_HBP_11 f_HBP_0 f_HBP_1 f_HBP_2 f_HBP_3 f_HBP_4 f_HBP_5 f_HBP_6 f_HBP_7 f_HBP_8 f_HBP_9 f_HBP_10 f_HBP_11 o_B_S_0 o_B_S_1 o_B_S_2 o_B_S_3
            have h := HW.out.setS (s := ⟨bs ++ [b], a, ⟨k2, i2⟩⟩) (sa2 := a2) (sc2 := c2) (by simp only [List.length_append, List.length_singleton, N_sn.out]; exact M_0.out.mono (fun b _ h => ⟨trivial, fun e => by have := HML.out b e; omega⟩))
            simp only [List.length_append, List.length_singleton, N_sn.out] at h
            have HW9 : Hd (WRx (fun b => w.heap.size ≤ b) (fun _ => True) _ p ⟨⟨bs ++ [b], a, ⟨k2, i2⟩⟩, ⟨nx, fs, lk, ⟨rk, ri⟩⟩, FSq, RP, GT⟩) := hid ⟨_, _, _, _, _, _, _, _, _, _, h⟩
            clear h
            have HI9 := hid (winv_queue HM1.out (b := b) (by have := M_1.out; omega))
            have HO9 := hid (HM2.out.queue M_2.out)
            simp only [] at HI9 HO9
            have KP := HW.out.k p (.inl rfl)
            go_roundw
            case rel => exact ⟨j + 1, _, by go_num, by omega, by omega, HI9, HO9, HW9, hid ((HKL.out.trans (HK.out.mono (fun _ _ h => h.elim))).trans' (keep4' _ _ _ _ _ _ _ _ _ _) (fun i hi h => by rw [h]; exact KP))⟩
            case measure => simp [intOf]; omega
        · have HGT : Hd (WInv key M 200 ∧ WOk M 200) := hid ⟨winv_mono HM1.out (by omega), HM2.out.mono (by omega)⟩
          clear HM1 HM2
          go_upto_region 7 with fail
          go_cut [37] from 30 to 37 (fun u37 wx => u37 = .bool false ∧ V2 = wx)
          case first =>
            by_cases hlt : j < Lm
            · have q1 : (j : Int) < Lm := by omega
              have q2 : ¬ ((j : Int) < 60) := by omega
              go_wp2_with fail
              go_meet
              exact ⟨rfl, rfl⟩
            · have q1 : ¬ ((j : Int) < Lm) := by omega
              go_wp2_with fail
              go_meet
              exact ⟨rfl, rfl⟩
          case rest =>
          obtain ⟨rfl, rfl⟩ := hcut
          clear hgo
          have HCP : Hd (Calls Tryd.prog 34 #[.pointer (some ⟨p, 0, none⟩)] V2.drew fun e w' => e = .returned (.bool true) ∧ (∃ m2, m2.s.bs = M.s.bs ∧ m2.gt = M.s.bs ∧ (∀ x ∈ m2.s.bs, ∀ c ∈ x, c < 256) ∧ WRx (fun b => w.heap.size ≤ b) (fun _ => True) w' p m2) ∧ Keeps (fun b => w.heap.size ≤ b) V2.drew w') := hid (by
            obtain ⟨sa, sc, aa, ac, fa, fc, ra, rc, ga, gc, h⟩ := HM3.out
            exact complete_any key M 200 p (fun b => w.heap.size ≤ b) (fun _ => True) V2.drew ⟨_, _, _, _, _, _, _, _, _, _, h.keep ((Keeps.refl (fun _ => False) V2).drew) (fun _ _ _ h => h)⟩ (fun b hb => ⟨Nat.le_trans zV hb, trivial⟩) HGT.out.1 HGT.out.2 (by omega))
          go_upto_region 13 with fail
          have HMB := hid (HGT.out.2.b)
          have HGL : Hd (M.s.bs.length ≤ 1000) := hid (by have := HGT.out.1.bn; omega)
          rw [ldU_eq, ldV_eq]
          go_region_held (fun w' => True) (trivial)
            (first
            | (go_at_call 34; (refine HCP.out.mono ?_); rintro e y1 ⟨rfl, ⟨m2, e1, e2, hb2, sa, sc, aa, ac, fa, fc, ra, rc, ga, gc, hw2⟩, hk⟩; have HK1 := hid (HK.out.trans ((Keeps.refl (fun b => w.heap.size ≤ b) V2).drew.trans hk)); have o11 : y1.cell? ⟨p, 11, none⟩ = some (.slice ga m2.gt.length gc) := blk_cell hw2.blk 11; have o0 : y1.cell? ⟨p, 0, none⟩ = some (.slice sa m2.s.bs.length sc) := blk_cell hw2.blk 0; have HSB := hid hw2.sb; have HGB := hid (bdo_bds hw2.gt); have HE1 := hid e1; have HE2 := hid e2; have K9 : Hd (Keeps (fun _ => False) y1 y1) := hid (Keeps.refl _ _); clear hw2 hk e1 e2 hb2)
            | (go_at_call 27; (refine (SameBodies_any _ _ _ _ m2.gt m2.s.bs _ HGB.out HSB.out (by rw [HE2.out]; exact HMB.out) (by rw [HE1.out]; exact HMB.out) (by rw [HE2.out]; have := HGL.out; omega)).mono ?_); (rw [decide_eq_true (show m2.gt = m2.s.bs from HE2.out.trans HE1.out.symm)]); rintro e y2 ⟨rfl, hk⟩; have HK2 := hid (HK1.out.trans' hk (fun _ _ h => h.elim)); clear hk)
            | (go_at_call 18; (refine (lives_any _ (HN.out.keep HK2.out (fun b h1 h2 h3 => by omega))).mono ?_); rintro e y3 ⟨rfl, hk⟩; have HK3 := hid (HK2.out.trans' hk (fun _ _ h => h.elim)); clear hk))
          all_goals
            go_wp2
            go_ret
            exact ⟨rfl, HK3.out.mono (fun b h1 h2 => by omega)⟩
end Go.Proofs.YthoikljmokkchaaDoor
