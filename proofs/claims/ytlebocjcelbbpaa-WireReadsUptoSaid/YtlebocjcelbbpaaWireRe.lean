/- The walk of WireReads. -/
import Derived.Test.YtlebocjcelbbpaaWireGot
import Derived.Test.YtlebocjcelbbpaaRegion
import Derived.Deep.Cut
import Derived.Deep.CutRange
import Derived.Deep.RegionWith
import Derived.BigQuiet
namespace Go.Proofs.Ytlebocjcelbbpaa
open Go.RowKit
attribute [local go_sem ↓] Go.wp_at_zero Go.wp_at_succ
set_option maxRecDepth 100000 in set_option maxHeartbeats 1000000 in
theorem wireReads_any (v vl : Value) (b : List Nat) (l : List It) (w : World) (hv : Sl (fun k => k < w.heap.size) w v (u8s b)) (hm : b.length ≤ 100000000) (hb : ∀ c ∈ b, c < 256) (hl : Its (fun k => k < w.heap.size) w vl l) (hok : ∀ x ∈ l, x.ok) (hw : wts l ≤ 1000000000) :
    Calls Try.prog 7 #[v, vl] w fun e w' => e = .returned (.bool true) ∧ Keeps (fun _ => False) w w' := by
  have HV := hid hv; have HM := hid hm; have HB := hid hb; have HOK := hid hok
  obtain ⟨a, cap, rfl, _, _, hx⟩ := hv.bytes
  clear hx
  obtain ⟨a2, cap2, rfl, hx⟩ := hl.at
  have HX := hid hx
  have hml : Hd (b.length ≤ 140737488351232) := hid (by omega)
  have hnn : l.length ≤ 1000000000 := by have := wts_len l; omega
  clear hx hv hb hl hm hok hw
  generalize hbl : b.length = n at *
  have HBL := hid hbl; clear hbl
  generalize hll : l.length = m at *
  have HLL := hid hll; clear hll
  go_enter Try.func7, Try.ntmps7
  go_wp2_with fail
  refine (NewReader_any _ _ b _ HV.out (by rw [HBL.out]; exact hml.out) HB.out).mono ?_
  rintro e w1 ⟨px, rfl, h1, h2, h3⟩
  have X1 := hid h1; have K1 := hid h3; have V1 := hid (HV.out.keep h3 (fun _ _ _ h => h)); have zx := h1.lt
  have hpx := h2
  clear h1 h2 h3
  go_wp2_with fail
  generalize hW : World.alloc w1 _ = W
  have BR : Blk W w1.heap.size #[.slice a n cap, .int .i64 0] 30 := by rw [← hW]; exact blk_new _ _ _
  have kW : Keeps (fun _ => False) w1 W := by rw [← hW]; exact keeps_alloc _ _ _
  have HBR := hid BR; have KW := hid (K1.out.trans kW); have XW := hid (X1.out.keep kW (fun h => h) (fun _ _ _ h => h)); have VW := hid (V1.out.keep kW (fun _ _ _ h => h))
  have RW : Hd (RV (fun k => k < w.heap.size) W (.agg #[.slice a n cap, .int .i64 0]) (0, b)) := hid ⟨_, b, rfl, VW.out, by rw [HBL.out]; exact hml.out, HB.out, fun _ => rfl⟩
  generalize hrb : w1.heap.size = rb at *
  have hrb1 : px < rb := zx
  have zw : w.heap.size ≤ w1.heap.size := K1.out.size
  clear hW kW BR K1 X1 V1 VW
  have XW' : Hd (Rd (fun k => w.heap.size ≤ k ∧ k < px) W px (0, b)) := XW
  go_loopw [7] (fun i wr => ∃ (k : Nat) (s : St) (ar : Option Addr) (nr cr : Nat), i = .int .i64 k ∧ k ≤ m ∧ Hd (Rd (fun k => w.heap.size ≤ k ∧ k < px) wr px s) ∧ Hd (RV (fun k => k < w.heap.size) wr (.agg #[.slice ar nr cr, .int .i64 s.1]) s) ∧
      Hd (Blk wr rb #[.slice ar nr cr, .int .i64 s.1] 30) ∧ Hd (s.2.length ≤ 100000000) ∧ Hd (Keeps (fun _ => False) w wr)) (fun i _ => m - (intOf i).toNat)
  case atStart => exact ⟨0, (0, b), a, n, cap, rfl, by omega, XW', RW, HBR, hid (by show b.length ≤ _; rw [HBL.out]; exact HM.out), KW⟩
  case round =>
    clear XW XW' RW HBR KW
    obtain ⟨k, s, ar, nr, cr, rfl, hk, X5, R5, C5, hsl, K0⟩ := hrel
    by_cases hkm : k < m
    · obtain ⟨x, b, o, ab, cb, al, cl, hxk, hxm, rfl, hb0, e0, e1, e2, e3, e4, e5, hb, hl⟩ := HX.out k hkm
      have k1 : (k : Int) < m := by omega
      have k2 : (0 : Int) ≤ k := by omega
      have f0 := keep_cell K0.out (fun h => h) e0
      have f1 := keep_cell K0.out (fun h => h) e1
      have f2 := keep_cell K0.out (fun h => h) e2
      have f3 := keep_cell K0.out (fun h => h) e3
      have f4 := keep_cell K0.out (fun h => h) e4
      have f5 := keep_cell K0.out (fun h => h) e5
      have hpz : px < wr.heap.size := X5.out.lt
      have hrz : rb < wr.heap.size := blk_lt C5.out
      have zK0 : w.heap.size ≤ wr.heap.size := K0.out.size
      have hbp : b ≠ px := by omega
      have hbr : b ≠ rb := by omega
      have HXO := hid (HOK.out _ hxm)
      have HWX : Hd (x.most ≤ 9223372036854775807) := hid HXO.out.2.2.2.2.2.2
      have HLX : Hd (s.2.length ≤ 1000000000000) := hid (by have := hsl.out; omega)
      obtain ⟨s', r, hrd⟩ : ∃ s' r, rdIt x.kind x.most s = (s', r) := ⟨_, _, rfl⟩
      have HRD := hid hrd
      have HSL' : Hd (s'.2.length ≤ 100000000) := hid (by have := rdIt_rest x.kind x.most s; rw [hrd] at this; exact Nat.le_trans this hsl.out)
      have HRL : Hd (r.b.length ≤ 1000000000 ∧ r.l.length ≤ 1000000000) := hid (by have h1 := rdIt_lens x.kind x.most s; rw [hrd] at h1; simp only at h1; have := hsl.out; omega)
      have HSS : Hd (∀ w', Keeps (fun b => b = px ∨ b = rb) wr w' → (w'.cell? ⟨b, o + k * 6, none⟩ = some (.int .i64 x.kind) ∧ w'.cell? ⟨b, o + k * 6 + 1, none⟩ = some (.int .u64 (x.u : Nat)) ∧ w'.cell? ⟨b, o + k * 6 + 2, none⟩ = some (.int .i64 x.n) ∧ w'.cell? ⟨b, o + k * 6 + 3, none⟩ = some (.slice ab x.b.length cb) ∧ w'.cell? ⟨b, o + k * 6 + 4, none⟩ = some (.slice al x.l.length cl) ∧ w'.cell? ⟨b, o + k * 6 + 5, none⟩ = some (.int .i64 x.most))) := hid (fun w' hk => ⟨keep_cell hk (by omega) f0, keep_cell hk (by omega) f1, keep_cell hk (by omega) f2, keep_cell hk (by omega) f3, keep_cell hk (by omega) f4, keep_cell hk (by omega) f5⟩)
      clear e0 e1 e2 e3 e4 e5 f0 f1 f2 f3 f4 f5 hb hl hxk hxm hrd
      go_upto_region 8 with fail
      go_cut [8] from 22 to 32 (fun u8 wx => GotR (fun k => w.heap.size ≤ k ∧ k < px) px wr s' r u8 wx)
      case first =>
        have L5 : Hd (Keeps (fun _ => False) wr wr) := hid (Keeps.refl _ _)
        have z5 := Nat.le_refl wr.heap.size
        have zd : wr.heap.size ≤ wr.drew.heap.size := Nat.le_refl _
        have zd2 : wr.heap.size < (wr.alloc (.cells itZero 46)).drew.heap.size := by simp
        go_region_held (fun w' => w'.cell? ⟨b, o + k * 6, none⟩ = some (.int .i64 x.kind) ∧ w'.cell? ⟨b, o + k * 6 + 1, none⟩ = some (.int .u64 (x.u : Nat)) ∧ w'.cell? ⟨b, o + k * 6 + 2, none⟩ = some (.int .i64 x.n) ∧ w'.cell? ⟨b, o + k * 6 + 3, none⟩ = some (.slice ab x.b.length cb) ∧ w'.cell? ⟨b, o + k * 6 + 4, none⟩ = some (.slice al x.l.length cl) ∧ w'.cell? ⟨b, o + k * 6 + 5, none⟩ = some (.int .i64 x.most)) ((refine HSS.out _ (Keeps.mono (S := fun b => b = px) ?_ (fun _ _ h => .inl h)); repeat (first | (with_reducible exact K6.out) | (with_reducible exact (L5.out.mono (fun _ _ h => h.elim))) | (with_reducible exact Keeps.refl _ _) | (with_reducible apply Keeps.drewN) | (with_reducible apply Keeps.drew) | (with_reducible apply Keeps.alloc) | refine Keeps.setCell ?_ (.inr (by first | (simp; done) | (simp; omega) | omega)) _)))
          (first
          | (go_at_call 31; refine (read_any (fun k => w.heap.size ≤ k ∧ k < px) px s _ _ _ _ x.most _ _ _ _ _ _ _ (Rd.keep (S := fun _ => False) X5.out (by repeat (first | (with_reducible exact L5.out) | (with_reducible exact Keeps.refl _ _) | (with_reducible apply Keeps.drewN) | (with_reducible apply Keeps.drew) | (with_reducible apply Keeps.alloc))) (fun h => h) (fun _ _ _ h => h)) HWX.out HLX.out).mono ?_; unfold ReadPost; rw [HRD.out]; rintro e w6 ⟨vr, rfl, ⟨ab6, nb6, cb6, al6, nl6, cl6, rfl, hb6, hl6⟩, hr6, hk⟩; have KK : Keeps (fun b => b = px) wr w6 := Keeps.trans' (S := fun b => b = px) (by repeat (first | (with_reducible exact K6.out) | (with_reducible exact (L5.out.mono (fun _ _ h => h.elim))) | (with_reducible exact Keeps.refl _ _) | (with_reducible apply Keeps.drewN) | (with_reducible apply Keeps.drew) | (with_reducible apply Keeps.alloc) | refine Keeps.setCell ?_ (.inr (by first | (simp; done) | (simp; omega) | omega)) _)) hk (fun _ _ h => h); (try (have NB2 := hid (blk_keep (blk_drew (blk_new wr itZero 46)) hk (by omega)); have F0 : w6.cell? ⟨_, 0, none⟩ = some (.int .i64 0) := blk_cell NB2.out 0; have F1 : w6.cell? ⟨_, 1, none⟩ = some (.int .u64 0) := blk_cell NB2.out 1; have F2 : w6.cell? ⟨_, 2, none⟩ = some (.int .i64 0) := blk_cell NB2.out 2; have F3 : w6.cell? ⟨_, 3, none⟩ = some (.slice none 0 0) := blk_cell NB2.out 3; have F4 : w6.cell? ⟨_, 4, none⟩ = some (.slice none 0 0) := blk_cell NB2.out 4; have F5 : w6.cell? ⟨_, 5, none⟩ = some (.int .i64 0) := blk_cell NB2.out 5; have G0 := blk_free NB2.out 0; have G1 := blk_free NB2.out 1; have G2 := blk_free NB2.out 2; have G3 := blk_free NB2.out 3; have G4 := blk_free NB2.out 4; have G5 := blk_free NB2.out 5)); have K6 := hid KK; replace hb6 := hid hb6; replace hl6 := hid hl6; replace hr6 := hid hr6; have z6 := KK.size; clear hk KK))
        all_goals
          go_wp2_with fail
          go_meet
          first
          | with_reducible exact gotR_new z5 hb6 hl6 hr6 K6
          | with_reducible exact gotR_new zd hb6 hl6 hr6 K6
          | with_reducible exact gotR_old (V := (wr.alloc (.cells itZero 46)).drew) (Nat.le_refl _) (by simp) hpz (by omega) hb6 hl6 hr6 K6 NB2
          | with_reducible exact gotR_old (Nat.le_refl _) zd2 hpz (by omega) hb6 hl6 hr6 K6 NB2
      case rest =>
        obtain ⟨g, ab6, nb6, cb6, al6, nl6, cl6, rfl, hg, B6, S6, L6, X6, K6⟩ := hcut
        generalize wc = w6 at *
        have zg : w.heap.size ≤ g := by omega
        have hgp : g ≠ px := by omega
        have zg6 : g < w6.heap.size := blk_lt B6.out
        replace S6 : Hd (Sl (fun b => wr.heap.size ≤ b ∧ b < w6.heap.size) w6 (.slice ab6 nb6 cb6) (u8s r.b)) := hid (S6.out.mono (fun _ h1 h2 => ⟨h2.1, h1⟩))
        replace L6 : Hd (Sl (fun b => wr.heap.size ≤ b ∧ b < w6.heap.size) w6 (.slice al6 nl6 cl6) (i64s r.l)) := hid (L6.out.mono (fun _ h1 h2 => ⟨h2.1, h1⟩))
        have R6 := hid (R5.out.keep K6.out (fun _ _ h1 h2 => by omega))
        have C6 := hid (blk_keep C5.out K6.out (by omega))
        have K7 : Hd (Keeps (fun _ => False) w w6) := hid (K0.out.trans' K6.out (fun i hi hs => by omega))
        clear X5 R5 C5 HLX
        have f0 := (HSS.out _ (K6.out.mono (fun _ _ h => .inl h))).1
        go_upto_region 10 with fail
        generalize hW : World.alloc w6 _ = w7
        have BW : Hd (Blk w7 w6.heap.size itZero 46) := hid (by rw [← hW]; exact blk_new _ _ _)
        have k67 : Keeps (fun _ => False) w6 w7 := by rw [← hW]; exact keeps_alloc _ _ _
        replace B6 := hid (blk_keep B6.out k67 (fun h => h))
        replace S6 := hid (S6.out.keep k67 (fun _ _ _ h => h))
        replace L6 := hid (L6.out.keep k67 (fun _ _ _ h => h))
        replace X6 := hid (Rd.keep X6.out k67 (fun h => h) (fun _ _ _ h => h))
        replace R6 := hid (R6.out.keep k67 (fun _ _ _ h => h))
        replace C6 := hid (blk_keep C6.out k67 (fun h => h))
        replace K7 := hid (K7.out.trans k67)
        replace K6 : Hd (Keeps (fun b => b = px) wr w7) := hid (K6.out.trans' k67 (fun _ _ h => h.elim))
        have zg7 : w6.heap.size < w7.heap.size := blk_lt BW.out
        generalize hgw : w6.heap.size = gw at *
        have HS7 := hid (HSS.out _ (K6.out.mono (fun _ _ h => .inl h)))
        replace f0 := HS7.out.1
        clear hW k67 hgw HSS
        have zrw : wr.heap.size ≤ gw := by omega
        have zrb : w.heap.size ≤ rb := by omega
        by_cases t0 : x.kind = 0
        · have HSE : Hd ((sU s).1 = s') := hid (by have := HRD.out; unfold rdIt at this; rw [if_pos t0] at this; exact congrArg Prod.fst this)
          have HRE : Hd (r = ⟨x.kind, (sU s).2, 0, [], [], 0⟩) := hid (by have := HRD.out; unfold rdIt at this; rw [if_pos t0] at this; exact (congrArg Prod.snd this).symm)
          have c0 : (x.kind == 0) = true := by simp; exact t0
          have HEQ : Hd (r.u = (sU s).2 ∧ r.n = 0 ∧ r.b = [] ∧ r.l = []) := hid (by rw [HRE.out]; exact ⟨rfl, rfl, rfl, rfl⟩)
          have HYL : Hd (([] : List Nat).length ≤ 1000000000 ∧ ([] : List Int).length ≤ 1000000000) := hid (by simp)
          clear t0 HRE
          have rc0 : w7.cell? ⟨rb, 0, none⟩ = some (.slice ar nr cr) := blk_cell C6.out 0
          have rc1 : w7.cell? ⟨rb, 1, none⟩ = some (.int .i64 s.1) := blk_cell C6.out 1
          go_wp2_with fail
          refine (VUint_any (fun k => k < w.heap.size) _ s _ R6.out).mono ?_
          unfold VUPost
          rintro e w8 ⟨v7, rfl, hr7, hk⟩
          obtain ⟨ar7, nr7, cr7, rfl⟩ := rv_form hr7
          rw [HSE.out] at hr7 ⊢
          replace BW := hid (blk_keep BW.out hk (fun h => h))
          replace C6 := hid (blk_keep C6.out hk (fun h => h))
          replace B6 := hid (blk_keep B6.out hk (fun h => h))
          replace S6 := hid (S6.out.keep hk (fun _ _ _ h => h))
          replace L6 := hid (L6.out.keep hk (fun _ _ _ h => h))
          replace X6 := hid (Rd.keep X6.out hk (fun h => h) (fun _ _ _ h => h))
          have R7 := hid hr7
          replace K7 : Hd (Keeps (fun _ => False) w w8) := hid (K7.out.trans hk)
          clear rc0 rc1 hr7 hk
          have g0 : w8.frozen? ⟨rb, 0, none⟩ = false := blk_free C6.out 0
          have g1 : w8.frozen? ⟨rb, 1, none⟩ = false := blk_free C6.out 1
          have g2 : w8.frozen? ⟨gw, 1, none⟩ = false := blk_free BW.out 1
          have h0 : w8.cell? ⟨rb, 0, none⟩ = some (.slice ar nr cr) := blk_cell C6.out 0
          have h1 : w8.cell? ⟨rb, 1, none⟩ = some (.int .i64 s.1) := blk_cell C6.out 1
          have h2 : w8.cell? ⟨gw, 1, none⟩ = some (.int .u64 0) := blk_cell BW.out 1
          have hgr : gw ≠ rb := by omega
          have hgr2 : rb ≠ gw := by omega
          go_upto_region 18 with fail
          have kst : Keeps (fun b => b = rb ∨ b = gw) w8 (((w8.setCell ⟨rb, 0, none⟩ (.slice ar7 nr7 cr7)).setCell ⟨rb, 1, none⟩ (.int .i64 s'.1)).setCell ⟨gw, 1, none⟩ (.int .u64 ((sU s).2 : Nat))) := ((keeps_set _ w8 _ _ (.inl rfl)).setCell (.inl (.inl rfl)) _).setCell (.inl (.inr rfl)) _
          have HC6 := blk_other (c := gw) (blk_set (blk_set C6.out 0 (.slice ar7 nr7 cr7)) 1 (.int .i64 s'.1)) hgr 1 (.int .u64 ((sU s).2 : Nat))
          have HBW := blk_set (blk_other (c := rb) (blk_other (c := rb) BW.out hgr2 0 (.slice ar7 nr7 cr7)) hgr2 1 (.int .i64 s'.1)) 1 (.int .u64 ((sU s).2 : Nat))
          simp only [List.setIfInBounds_toArray, List.set_cons_zero, List.set_cons_succ] at HC6 HBW
          generalize hw9 : ((w8.setCell ⟨rb, 0, none⟩ (.slice ar7 nr7 cr7)).setCell ⟨rb, 1, none⟩ (.int .i64 s'.1)).setCell ⟨gw, 1, none⟩ (.int .u64 ((sU s).2 : Nat)) = w9 at *
          replace C6 := hid HC6; replace BW := hid HBW
          replace B6 := hid (blk_keep B6.out kst (by omega))
          replace S6 := hid (S6.out.keep kst (fun b hb h1 h2 => by omega))
          replace L6 := hid (L6.out.keep kst (fun b hb h1 h2 => by omega))
          replace X6 := hid (Rd.keep X6.out kst (by omega) (fun _ _ h1 h2 => by omega))
          replace R6 := hid (R7.out.keep kst (fun _ _ h1 h2 => by omega))
          replace K7 := hid (K7.out.trans' kst (fun _ _ h => by omega))
          clear kst HC6 HBW g0 g1 g2 h0 h1 h2 hw9
          have HIW : Hd (ItV (fun _ => True) w9 (.agg #[.int .i64 0, .int .u64 (((sU s).2 : Nat)), .int .i64 0, .slice none 0 0, .slice none 0 0, .int .i64 0]) ⟨0, (sU s).2, 0, [], [], 0⟩) := hid ⟨_, _, _, _, _, _, rfl, Sl.nil _ _, Sl.nil _ _⟩
          go_upto_region 18 with fail
          have HIT : Hd (ItV (fun _ => True) w9 (.agg #[.int .i64 r.kind, .int .u64 (r.u : Nat), .int .i64 r.n, .slice ab6 nb6 cb6, .slice al6 nl6 cl6, .int .i64 r.most]) r) := hid ⟨_, _, _, _, _, _, rfl, S6.out.mono (fun _ _ _ => trivial), L6.out.mono (fun _ _ _ => trivial)⟩
          have CS : Hd (∀ y : Ext w9, Calls Try.prog 32 #[.agg #[.int .i64 r.kind, .int .u64 (r.u : Nat), .int .i64 r.n, .slice ab6 nb6 cb6, .slice al6 nl6 cl6, .int .i64 r.most], .agg #[.int .i64 0, .int .u64 (((sU s).2 : Nat)), .int .i64 0, .slice none 0 0, .slice none 0 0, .int .i64 0]] y.w fun e w' => e = .returned (.bool true) ∧ Keeps (fun _ => False) y.w w') := hid (fun y => same_any (fun _ => True) (fun _ => True) _ _ r ⟨0, (sU s).2, 0, [], [], 0⟩ y.w (itv_keep HIT.out y.k (fun _ _ _ h => h)) (itv_keep HIW.out y.k (fun _ _ _ h => h)) HEQ.out.1 HEQ.out.2.1 HEQ.out.2.2.1 HEQ.out.2.2.2 HYL.out.1 HYL.out.2)
          have CE : Hd (∀ y : Ext w9, Calls Try.prog 18 #[.pointer (some ⟨px, 0, none⟩)] y.w fun e w' => e = .returned (.int .i64 s'.1) ∧ y.w = w') := hid (fun y => RErr_any _ px _ _ (Rd.keep X6.out y.k (fun h => h) (fun _ _ _ h => h)))
          have CN : Hd (∀ y : Ext w9, Calls Try.prog 19 #[.pointer (some ⟨px, 0, none⟩)] y.w fun e w' => e = .returned (.int .i64 (sEnd s')) ∧ Drawn y.w w') := hid (fun y => REnd_any _ px _ _ (Rd.keep X6.out y.k (fun h => h) (fun _ _ _ h => h)))
          have CV : Hd (∀ y : Ext w9, Calls Try.prog 20 #[.agg #[.slice ar7 nr7 cr7, .int .i64 s'.1]] y.w fun e w' => e = .returned (.int .i64 (sEnd s')) ∧ Keeps (fun _ => False) y.w w') := hid (fun y => VEnd_any _ _ _ _ (R6.out.keep y.k (fun _ _ _ h => h)))
          have p0 : ∀ y : Ext w9, y.w.cell? ⟨g, 0, none⟩ = some _ := ext_bcell B6.out 0 rfl
          have p1 : ∀ y : Ext w9, y.w.cell? ⟨g, 1, none⟩ = some _ := ext_bcell B6.out 1 rfl
          have p2 : ∀ y : Ext w9, y.w.cell? ⟨g, 2, none⟩ = some _ := ext_bcell B6.out 2 rfl
          have p3 : ∀ y : Ext w9, y.w.cell? ⟨g, 3, none⟩ = some _ := ext_bcell B6.out 3 rfl
          have p4 : ∀ y : Ext w9, y.w.cell? ⟨g, 4, none⟩ = some _ := ext_bcell B6.out 4 rfl
          have p5 : ∀ y : Ext w9, y.w.cell? ⟨g, 5, none⟩ = some _ := ext_bcell B6.out 5 rfl
          have q0 : ∀ y : Ext w9, y.w.cell? ⟨gw, 0, none⟩ = some _ := ext_bcell BW.out 0 rfl
          have q1 : ∀ y : Ext w9, y.w.cell? ⟨gw, 1, none⟩ = some _ := ext_bcell BW.out 1 rfl
          have q2 : ∀ y : Ext w9, y.w.cell? ⟨gw, 2, none⟩ = some _ := ext_bcell BW.out 2 rfl
          have q3 : ∀ y : Ext w9, y.w.cell? ⟨gw, 3, none⟩ = some _ := ext_bcell BW.out 3 rfl
          have q4 : ∀ y : Ext w9, y.w.cell? ⟨gw, 4, none⟩ = some _ := ext_bcell BW.out 4 rfl
          have q5 : ∀ y : Ext w9, y.w.cell? ⟨gw, 5, none⟩ = some _ := ext_bcell BW.out 5 rfl
          have r0 : ∀ y : Ext w9, y.w.cell? ⟨rb, 0, none⟩ = some _ := ext_bcell C6.out 0 rfl
          have r1 : ∀ y : Ext w9, y.w.cell? ⟨rb, 1, none⟩ = some _ := ext_bcell C6.out 1 rfl
          refine wp_region_ext (by kernel_rfl) (by kernel_rfl) ?_
          repeat (go_big_quiet_step (first | (go_at_call 32; exact ext_call (CS.out _)) | (go_at_call 18; exact ext_same (CE.out _)) | (go_at_call 19; exact ext_drawn (CN.out _)) | (go_at_call 20; exact ext_call (CV.out _))))
          refine wpQuiet_nil ?_
          rintro _ ⟨y, rfl⟩
          clear p0 p1 p2 p3 p4 p5 q0 q1 q2 q3 q4 q5 r0 r1
          have X8 := hid (Rd.keep X6.out y.k (fun h => h) (fun _ _ _ h => h))
          have R8 := hid (R6.out.keep y.k (fun _ _ _ h => h))
          have C8 := hid (blk_keep C6.out y.k (fun h => h))
          have K8 := hid (K7.out.trans y.k)
          go_wp2
          go_roundw
          case rel => exact ⟨k + 1, s', ar7, nr7, cr7, by go_num, by omega, X8, R8, C8, HSL', K8⟩
          case measure => simp [intOf]; omega
        · have c0 : (x.kind == 0) = false := by simp; exact t0
          by_cases t1 : x.kind = 1
          · have HSE : Hd ((sI s).1 = s') := hid (by have := HRD.out; unfold rdIt at this; rw [if_neg t0, if_pos t1] at this; exact congrArg Prod.fst this)
            have HRE : Hd (r = ⟨x.kind, 0, (sI s).2, [], [], 0⟩) := hid (by have := HRD.out; unfold rdIt at this; rw [if_neg t0, if_pos t1] at this; exact (congrArg Prod.snd this).symm)
            have c1 : (x.kind == 1) = true := by simp; exact t1
            have HEQ : Hd (r.u = 0 ∧ r.n = (sI s).2 ∧ r.b = [] ∧ r.l = []) := hid (by rw [HRE.out]; exact ⟨rfl, rfl, rfl, rfl⟩)
            have HYL : Hd (([] : List Nat).length ≤ 1000000000 ∧ ([] : List Int).length ≤ 1000000000) := hid (by simp)
            clear t0 t1 HRE
            have rc0 : w7.cell? ⟨rb, 0, none⟩ = some (.slice ar nr cr) := blk_cell C6.out 0
            have rc1 : w7.cell? ⟨rb, 1, none⟩ = some (.int .i64 s.1) := blk_cell C6.out 1
            go_wp2_with fail
            refine (VInt_any (fun k => k < w.heap.size) _ s _ R6.out).mono ?_
            unfold VIPost
            rintro e w8 ⟨v7, rfl, hr7, hk⟩
            obtain ⟨ar7, nr7, cr7, rfl⟩ := rv_form hr7
            rw [HSE.out] at hr7 ⊢
            replace BW := hid (blk_keep BW.out hk (fun h => h))
            replace C6 := hid (blk_keep C6.out hk (fun h => h))
            replace B6 := hid (blk_keep B6.out hk (fun h => h))
            replace S6 := hid (S6.out.keep hk (fun _ _ _ h => h))
            replace L6 := hid (L6.out.keep hk (fun _ _ _ h => h))
            replace X6 := hid (Rd.keep X6.out hk (fun h => h) (fun _ _ _ h => h))
            have R7 := hid hr7
            replace K7 : Hd (Keeps (fun _ => False) w w8) := hid (K7.out.trans hk)
            clear rc0 rc1 hr7 hk
            have g0 : w8.frozen? ⟨rb, 0, none⟩ = false := blk_free C6.out 0
            have g1 : w8.frozen? ⟨rb, 1, none⟩ = false := blk_free C6.out 1
            have g2 : w8.frozen? ⟨gw, 2, none⟩ = false := blk_free BW.out 2
            have h0 : w8.cell? ⟨rb, 0, none⟩ = some (.slice ar nr cr) := blk_cell C6.out 0
            have h1 : w8.cell? ⟨rb, 1, none⟩ = some (.int .i64 s.1) := blk_cell C6.out 1
            have h2 : w8.cell? ⟨gw, 2, none⟩ = some (.int .i64 0) := blk_cell BW.out 2
            have hgr : gw ≠ rb := by omega
            have hgr2 : rb ≠ gw := by omega
            go_upto_region 18 with fail
            have kst : Keeps (fun b => b = rb ∨ b = gw) w8 (((w8.setCell ⟨rb, 0, none⟩ (.slice ar7 nr7 cr7)).setCell ⟨rb, 1, none⟩ (.int .i64 s'.1)).setCell ⟨gw, 2, none⟩ (.int .i64 (sI s).2)) := ((keeps_set _ w8 _ _ (.inl rfl)).setCell (.inl (.inl rfl)) _).setCell (.inl (.inr rfl)) _
            have HC6 := blk_other (c := gw) (blk_set (blk_set C6.out 0 (.slice ar7 nr7 cr7)) 1 (.int .i64 s'.1)) hgr 2 (.int .i64 (sI s).2)
            have HBW := blk_set (blk_other (c := rb) (blk_other (c := rb) BW.out hgr2 0 (.slice ar7 nr7 cr7)) hgr2 1 (.int .i64 s'.1)) 2 (.int .i64 (sI s).2)
            simp only [List.setIfInBounds_toArray, List.set_cons_zero, List.set_cons_succ] at HC6 HBW
            generalize hw9 : ((w8.setCell ⟨rb, 0, none⟩ (.slice ar7 nr7 cr7)).setCell ⟨rb, 1, none⟩ (.int .i64 s'.1)).setCell ⟨gw, 2, none⟩ (.int .i64 (sI s).2) = w9 at *
            replace C6 := hid HC6; replace BW := hid HBW
            replace B6 := hid (blk_keep B6.out kst (by omega))
            replace S6 := hid (S6.out.keep kst (fun b hb h1 h2 => by omega))
            replace L6 := hid (L6.out.keep kst (fun b hb h1 h2 => by omega))
            replace X6 := hid (Rd.keep X6.out kst (by omega) (fun _ _ h1 h2 => by omega))
            replace R6 := hid (R7.out.keep kst (fun _ _ h1 h2 => by omega))
            replace K7 := hid (K7.out.trans' kst (fun _ _ h => by omega))
            clear kst HC6 HBW g0 g1 g2 h0 h1 h2 hw9
            have HIW : Hd (ItV (fun _ => True) w9 (.agg #[.int .i64 0, .int .u64 ((0 : Nat)), .int .i64 (sI s).2, .slice none 0 0, .slice none 0 0, .int .i64 0]) ⟨0, 0, (sI s).2, [], [], 0⟩) := hid ⟨_, _, _, _, _, _, rfl, Sl.nil _ _, Sl.nil _ _⟩
            go_upto_region 18 with fail
            have HIT : Hd (ItV (fun _ => True) w9 (.agg #[.int .i64 r.kind, .int .u64 (r.u : Nat), .int .i64 r.n, .slice ab6 nb6 cb6, .slice al6 nl6 cl6, .int .i64 r.most]) r) := hid ⟨_, _, _, _, _, _, rfl, S6.out.mono (fun _ _ _ => trivial), L6.out.mono (fun _ _ _ => trivial)⟩
            have CS : Hd (∀ y : Ext w9, Calls Try.prog 32 #[.agg #[.int .i64 r.kind, .int .u64 (r.u : Nat), .int .i64 r.n, .slice ab6 nb6 cb6, .slice al6 nl6 cl6, .int .i64 r.most], .agg #[.int .i64 0, .int .u64 ((0 : Nat)), .int .i64 (sI s).2, .slice none 0 0, .slice none 0 0, .int .i64 0]] y.w fun e w' => e = .returned (.bool true) ∧ Keeps (fun _ => False) y.w w') := hid (fun y => same_any (fun _ => True) (fun _ => True) _ _ r ⟨0, 0, (sI s).2, [], [], 0⟩ y.w (itv_keep HIT.out y.k (fun _ _ _ h => h)) (itv_keep HIW.out y.k (fun _ _ _ h => h)) HEQ.out.1 HEQ.out.2.1 HEQ.out.2.2.1 HEQ.out.2.2.2 HYL.out.1 HYL.out.2)
            have CE : Hd (∀ y : Ext w9, Calls Try.prog 18 #[.pointer (some ⟨px, 0, none⟩)] y.w fun e w' => e = .returned (.int .i64 s'.1) ∧ y.w = w') := hid (fun y => RErr_any _ px _ _ (Rd.keep X6.out y.k (fun h => h) (fun _ _ _ h => h)))
            have CN : Hd (∀ y : Ext w9, Calls Try.prog 19 #[.pointer (some ⟨px, 0, none⟩)] y.w fun e w' => e = .returned (.int .i64 (sEnd s')) ∧ Drawn y.w w') := hid (fun y => REnd_any _ px _ _ (Rd.keep X6.out y.k (fun h => h) (fun _ _ _ h => h)))
            have CV : Hd (∀ y : Ext w9, Calls Try.prog 20 #[.agg #[.slice ar7 nr7 cr7, .int .i64 s'.1]] y.w fun e w' => e = .returned (.int .i64 (sEnd s')) ∧ Keeps (fun _ => False) y.w w') := hid (fun y => VEnd_any _ _ _ _ (R6.out.keep y.k (fun _ _ _ h => h)))
            have p0 : ∀ y : Ext w9, y.w.cell? ⟨g, 0, none⟩ = some _ := ext_bcell B6.out 0 rfl
            have p1 : ∀ y : Ext w9, y.w.cell? ⟨g, 1, none⟩ = some _ := ext_bcell B6.out 1 rfl
            have p2 : ∀ y : Ext w9, y.w.cell? ⟨g, 2, none⟩ = some _ := ext_bcell B6.out 2 rfl
            have p3 : ∀ y : Ext w9, y.w.cell? ⟨g, 3, none⟩ = some _ := ext_bcell B6.out 3 rfl
            have p4 : ∀ y : Ext w9, y.w.cell? ⟨g, 4, none⟩ = some _ := ext_bcell B6.out 4 rfl
            have p5 : ∀ y : Ext w9, y.w.cell? ⟨g, 5, none⟩ = some _ := ext_bcell B6.out 5 rfl
            have q0 : ∀ y : Ext w9, y.w.cell? ⟨gw, 0, none⟩ = some _ := ext_bcell BW.out 0 rfl
            have q1 : ∀ y : Ext w9, y.w.cell? ⟨gw, 1, none⟩ = some _ := ext_bcell BW.out 1 rfl
            have q2 : ∀ y : Ext w9, y.w.cell? ⟨gw, 2, none⟩ = some _ := ext_bcell BW.out 2 rfl
            have q3 : ∀ y : Ext w9, y.w.cell? ⟨gw, 3, none⟩ = some _ := ext_bcell BW.out 3 rfl
            have q4 : ∀ y : Ext w9, y.w.cell? ⟨gw, 4, none⟩ = some _ := ext_bcell BW.out 4 rfl
            have q5 : ∀ y : Ext w9, y.w.cell? ⟨gw, 5, none⟩ = some _ := ext_bcell BW.out 5 rfl
            have r0 : ∀ y : Ext w9, y.w.cell? ⟨rb, 0, none⟩ = some _ := ext_bcell C6.out 0 rfl
            have r1 : ∀ y : Ext w9, y.w.cell? ⟨rb, 1, none⟩ = some _ := ext_bcell C6.out 1 rfl
            refine wp_region_ext (by kernel_rfl) (by kernel_rfl) ?_
            repeat (go_big_quiet_step (first | (go_at_call 32; exact ext_call (CS.out _)) | (go_at_call 18; exact ext_same (CE.out _)) | (go_at_call 19; exact ext_drawn (CN.out _)) | (go_at_call 20; exact ext_call (CV.out _))))
            refine wpQuiet_nil ?_
            rintro _ ⟨y, rfl⟩
            clear p0 p1 p2 p3 p4 p5 q0 q1 q2 q3 q4 q5 r0 r1
            have X8 := hid (Rd.keep X6.out y.k (fun h => h) (fun _ _ _ h => h))
            have R8 := hid (R6.out.keep y.k (fun _ _ _ h => h))
            have C8 := hid (blk_keep C6.out y.k (fun h => h))
            have K8 := hid (K7.out.trans y.k)
            go_wp2
            go_roundw
            case rel => exact ⟨k + 1, s', ar7, nr7, cr7, by go_num, by omega, X8, R8, C8, HSL', K8⟩
            case measure => simp [intOf]; omega
          · have c1 : (x.kind == 1) = false := by simp; exact t1
            by_cases t2 : x.kind = 2
            · have HSE : Hd ((sB x.most s).1 = s') := hid (by have := HRD.out; unfold rdIt at this; rw [if_neg t0, if_neg t1, if_pos t2] at this; exact congrArg Prod.fst this)
              have HRE : Hd (r = ⟨x.kind, 0, 0, (sB x.most s).2, [], 0⟩) := hid (by have := HRD.out; unfold rdIt at this; rw [if_neg t0, if_neg t1, if_pos t2] at this; exact (congrArg Prod.snd this).symm)
              have c2 : (x.kind == 2) = true := by simp; exact t2
              have HEQ : Hd (r.u = 0 ∧ r.n = 0 ∧ r.b = (sB x.most s).2 ∧ r.l = []) := hid (by rw [HRE.out]; exact ⟨rfl, rfl, rfl, rfl⟩)
              have HYL : Hd ((sB x.most s).2.length ≤ 1000000000 ∧ ([] : List Int).length ≤ 1000000000) := hid (by have := sB_len x.most s; have := hsl.out; simp; omega)
              clear t0 t1 t2 HRE
              have rc0 : w7.cell? ⟨rb, 0, none⟩ = some (.slice ar nr cr) := blk_cell C6.out 0
              have rc1 : w7.cell? ⟨rb, 1, none⟩ = some (.int .i64 s.1) := blk_cell C6.out 1
              have rc2 := HS7.out.2.2.2.2.2
              have hgr : gw ≠ rb := by omega
              have hgr2 : rb ≠ gw := by omega
              have kdr := hid (Keeps.drew (Keeps.refl (fun _ => False) w7))
              go_upto_region 17 with fail
              go_region_with (first | (go_at_call 28; refine (VBytes_any (fun k => k < w.heap.size) _ x.most s _ (R6.out.keep kdr.out (fun _ _ _ h => h)) HWX.out).mono ?_; unfold VBPost; rintro e w8 ⟨v7, a8, n8, c8, rfl, hn8, hs8, hr7, hk⟩; obtain ⟨ar7, nr7, cr7, rfl⟩ := rv_form hr7; rw [HSE.out] at hr7 ⊢; have hk8 := kdr.out.trans hk; have BW8 := blk_keep BW.out hk8 (fun h => h); have C68 := blk_keep C6.out hk8 (fun h => h); have g0 : w8.frozen? ⟨rb, 0, none⟩ = false := blk_free C68 0; have g1 : w8.frozen? ⟨rb, 1, none⟩ = false := blk_free C68 1; have g2 : w8.frozen? ⟨gw, 3, none⟩ = false := blk_free BW8 3; have h0 : w8.cell? ⟨rb, 0, none⟩ = some (.slice ar nr cr) := blk_cell C68 0; have h1 : w8.cell? ⟨rb, 1, none⟩ = some (.int .i64 s.1) := blk_cell C68 1; have h2 : w8.cell? ⟨gw, 3, none⟩ = some (.slice none 0 0) := blk_cell BW8 3; replace hn8 := hid hn8; replace hs8 := hid hs8; replace hr7 := hid hr7; replace hk8 := hid hk8; clear hk BW8 C68))
              all_goals
                replace BW := hid (blk_keep BW.out hk8.out (fun h => h))
                replace C6 := hid (blk_keep C6.out hk8.out (fun h => h))
                replace B6 := hid (blk_keep B6.out hk8.out (fun h => h))
                replace S6 := hid (S6.out.keep hk8.out (fun _ _ _ h => h))
                replace L6 := hid (L6.out.keep hk8.out (fun _ _ _ h => h))
                replace X6 := hid (Rd.keep X6.out hk8.out (fun h => h) (fun _ _ _ h => h))
                have R7 := hr7
                replace K7 : Hd (Keeps (fun _ => False) w w8) := hid (K7.out.trans hk8.out)
                clear rc0 rc1 rc2
                go_upto_region 18 with fail
                first
                | (with_reducible change Code.wp _ _ _ _ (((w8.setCell ⟨rb, 0, none⟩ (.slice ar7 nr7 cr7)).setCell ⟨rb, 1, none⟩ (.int .i64 s'.1)).setCell ⟨gw, 3, none⟩ (.slice a8 n8 c8))
                   have kst : Keeps (fun b => b = rb ∨ b = gw) w8 (((w8.setCell ⟨rb, 0, none⟩ (.slice ar7 nr7 cr7)).setCell ⟨rb, 1, none⟩ (.int .i64 s'.1)).setCell ⟨gw, 3, none⟩ (.slice a8 n8 c8)) := ((keeps_set _ w8 _ _ (.inl rfl)).setCell (.inl (.inl rfl)) _).setCell (.inl (.inr rfl)) _
                   have HC6 := blk_other (c := gw) (blk_set (blk_set C6.out 0 (.slice ar7 nr7 cr7)) 1 (.int .i64 s'.1)) hgr 3 (.slice a8 n8 c8)
                   have HBW := blk_set (blk_other (c := rb) (blk_other (c := rb) BW.out hgr2 0 (.slice ar7 nr7 cr7)) hgr2 1 (.int .i64 s'.1)) 3 (.slice a8 n8 c8)
                   simp only [List.setIfInBounds_toArray, List.set_cons_zero, List.set_cons_succ] at HC6 HBW
                   generalize hw9 : ((w8.setCell ⟨rb, 0, none⟩ (.slice ar7 nr7 cr7)).setCell ⟨rb, 1, none⟩ (.int .i64 s'.1)).setCell ⟨gw, 3, none⟩ (.slice a8 n8 c8) = w9 at *)
                | (with_reducible change Code.wp _ _ _ _ (((w8.setCell ⟨gw, 3, none⟩ (.slice a8 n8 c8)).setCell ⟨rb, 0, none⟩ (.slice ar7 nr7 cr7)).setCell ⟨rb, 1, none⟩ (.int .i64 s'.1))
                   have kst : Keeps (fun b => b = rb ∨ b = gw) w8 (((w8.setCell ⟨gw, 3, none⟩ (.slice a8 n8 c8)).setCell ⟨rb, 0, none⟩ (.slice ar7 nr7 cr7)).setCell ⟨rb, 1, none⟩ (.int .i64 s'.1)) := ((keeps_set _ w8 _ _ (.inr rfl)).setCell (.inl (.inl rfl)) _).setCell (.inl (.inl rfl)) _
                   have HC6 := blk_set (blk_set (blk_other (c := gw) C6.out hgr 3 (.slice a8 n8 c8)) 0 (.slice ar7 nr7 cr7)) 1 (.int .i64 s'.1)
                   have HBW := blk_other (c := rb) (blk_other (c := rb) (blk_set BW.out 3 (.slice a8 n8 c8)) hgr2 0 (.slice ar7 nr7 cr7)) hgr2 1 (.int .i64 s'.1)
                   simp only [List.setIfInBounds_toArray, List.set_cons_zero, List.set_cons_succ] at HC6 HBW
                   generalize hw9 : ((w8.setCell ⟨gw, 3, none⟩ (.slice a8 n8 c8)).setCell ⟨rb, 0, none⟩ (.slice ar7 nr7 cr7)).setCell ⟨rb, 1, none⟩ (.int .i64 s'.1) = w9 at *)
                replace C6 := hid HC6; replace BW := hid HBW
                replace B6 := hid (blk_keep B6.out kst (by omega))
                replace S6 := hid (S6.out.keep kst (fun b hb h1 h2 => by omega))
                replace L6 := hid (L6.out.keep kst (fun b hb h1 h2 => by omega))
                replace X6 := hid (Rd.keep X6.out kst (by omega) (fun _ _ h1 h2 => by omega))
                replace R6 := hid (R7.out.keep kst (fun _ _ h1 h2 => by omega))
                replace K7 := hid (K7.out.trans' kst (fun _ _ h => by omega))
                have S8 := hid ((hs8.out.keep kst (fun b hb h1 h2 => by have : w7.heap.size ≤ b := h1; omega)).mono (K' := fun _ => True) (fun _ _ _ => trivial))
                clear kst HC6 HBW g0 g1 g2 h0 h1 h2 hw9
                have HIW : Hd (ItV (fun _ => True) w9 (.agg #[.int .i64 0, .int .u64 (0 : Nat), .int .i64 0, .slice a8 n8 c8, .slice none 0 0, .int .i64 0]) ⟨0, 0, 0, (sB x.most s).2, [], 0⟩) := hid ⟨_, _, _, _, _, _, rfl, S8.out, Sl.nil _ _⟩
                go_upto_region 18 with fail
                have HIT : Hd (ItV (fun _ => True) w9 (.agg #[.int .i64 r.kind, .int .u64 (r.u : Nat), .int .i64 r.n, .slice ab6 nb6 cb6, .slice al6 nl6 cl6, .int .i64 r.most]) r) := hid ⟨_, _, _, _, _, _, rfl, S6.out.mono (fun _ _ _ => trivial), L6.out.mono (fun _ _ _ => trivial)⟩
                have CS : Hd (∀ y : Ext w9, Calls Try.prog 32 #[.agg #[.int .i64 r.kind, .int .u64 (r.u : Nat), .int .i64 r.n, .slice ab6 nb6 cb6, .slice al6 nl6 cl6, .int .i64 r.most], .agg #[.int .i64 0, .int .u64 ((0 : Nat)), .int .i64 0, .slice a8 n8 c8, .slice none 0 0, .int .i64 0]] y.w fun e w' => e = .returned (.bool true) ∧ Keeps (fun _ => False) y.w w') := hid (fun y => same_any (fun _ => True) (fun _ => True) _ _ r ⟨0, 0, 0, (sB x.most s).2, [], 0⟩ y.w (itv_keep HIT.out y.k (fun _ _ _ h => h)) (itv_keep HIW.out y.k (fun _ _ _ h => h)) HEQ.out.1 HEQ.out.2.1 HEQ.out.2.2.1 HEQ.out.2.2.2 HYL.out.1 HYL.out.2)
                have CE : Hd (∀ y : Ext w9, Calls Try.prog 18 #[.pointer (some ⟨px, 0, none⟩)] y.w fun e w' => e = .returned (.int .i64 s'.1) ∧ y.w = w') := hid (fun y => RErr_any _ px _ _ (Rd.keep X6.out y.k (fun h => h) (fun _ _ _ h => h)))
                have CN : Hd (∀ y : Ext w9, Calls Try.prog 19 #[.pointer (some ⟨px, 0, none⟩)] y.w fun e w' => e = .returned (.int .i64 (sEnd s')) ∧ Drawn y.w w') := hid (fun y => REnd_any _ px _ _ (Rd.keep X6.out y.k (fun h => h) (fun _ _ _ h => h)))
                have CV : Hd (∀ y : Ext w9, Calls Try.prog 20 #[.agg #[.slice ar7 nr7 cr7, .int .i64 s'.1]] y.w fun e w' => e = .returned (.int .i64 (sEnd s')) ∧ Keeps (fun _ => False) y.w w') := hid (fun y => VEnd_any _ _ _ _ (R6.out.keep y.k (fun _ _ _ h => h)))
                have p0 : ∀ y : Ext w9, y.w.cell? ⟨g, 0, none⟩ = some _ := ext_bcell B6.out 0 rfl
                have p1 : ∀ y : Ext w9, y.w.cell? ⟨g, 1, none⟩ = some _ := ext_bcell B6.out 1 rfl
                have p2 : ∀ y : Ext w9, y.w.cell? ⟨g, 2, none⟩ = some _ := ext_bcell B6.out 2 rfl
                have p3 : ∀ y : Ext w9, y.w.cell? ⟨g, 3, none⟩ = some _ := ext_bcell B6.out 3 rfl
                have p4 : ∀ y : Ext w9, y.w.cell? ⟨g, 4, none⟩ = some _ := ext_bcell B6.out 4 rfl
                have p5 : ∀ y : Ext w9, y.w.cell? ⟨g, 5, none⟩ = some _ := ext_bcell B6.out 5 rfl
                have q0 : ∀ y : Ext w9, y.w.cell? ⟨gw, 0, none⟩ = some _ := ext_bcell BW.out 0 rfl
                have q1 : ∀ y : Ext w9, y.w.cell? ⟨gw, 1, none⟩ = some _ := ext_bcell BW.out 1 rfl
                have q2 : ∀ y : Ext w9, y.w.cell? ⟨gw, 2, none⟩ = some _ := ext_bcell BW.out 2 rfl
                have q3 : ∀ y : Ext w9, y.w.cell? ⟨gw, 3, none⟩ = some _ := ext_bcell BW.out 3 rfl
                have q4 : ∀ y : Ext w9, y.w.cell? ⟨gw, 4, none⟩ = some _ := ext_bcell BW.out 4 rfl
                have q5 : ∀ y : Ext w9, y.w.cell? ⟨gw, 5, none⟩ = some _ := ext_bcell BW.out 5 rfl
                have r0 : ∀ y : Ext w9, y.w.cell? ⟨rb, 0, none⟩ = some _ := ext_bcell C6.out 0 rfl
                have r1 : ∀ y : Ext w9, y.w.cell? ⟨rb, 1, none⟩ = some _ := ext_bcell C6.out 1 rfl
                refine wp_region_ext (by kernel_rfl) (by kernel_rfl) ?_
                repeat (go_big_quiet_step (first | (go_at_call 32; exact ext_call (CS.out _)) | (go_at_call 18; exact ext_same (CE.out _)) | (go_at_call 19; exact ext_drawn (CN.out _)) | (go_at_call 20; exact ext_call (CV.out _))))
                refine wpQuiet_nil ?_
                rintro _ ⟨y, rfl⟩
                clear p0 p1 p2 p3 p4 p5 q0 q1 q2 q3 q4 q5 r0 r1
                have X8 := hid (Rd.keep X6.out y.k (fun h => h) (fun _ _ _ h => h))
                have R8 := hid (R6.out.keep y.k (fun _ _ _ h => h))
                have C8 := hid (blk_keep C6.out y.k (fun h => h))
                have K8 := hid (K7.out.trans y.k)
                go_wp2
                go_roundw
                case rel => exact ⟨k + 1, s', ar7, nr7, cr7, by go_num, by omega, X8, R8, C8, HSL', K8⟩
                case measure => simp [intOf]; omega
            · have HSE : Hd ((sL x.most s).1 = s') := hid (by have := HRD.out; unfold rdIt at this; rw [if_neg t0, if_neg t1, if_neg t2] at this; exact congrArg Prod.fst this)
              have HRE : Hd (r = ⟨x.kind, 0, 0, [], (sL x.most s).2, 0⟩) := hid (by have := HRD.out; unfold rdIt at this; rw [if_neg t0, if_neg t1, if_neg t2] at this; exact (congrArg Prod.snd this).symm)
              have c2 : (x.kind == 2) = false := by simp; exact t2
              have HEQ : Hd (r.u = 0 ∧ r.n = 0 ∧ r.b = [] ∧ r.l = (sL x.most s).2) := hid (by rw [HRE.out]; exact ⟨rfl, rfl, rfl, rfl⟩)
              have HYL : Hd (([] : List Nat).length ≤ 1000000000 ∧ (sL x.most s).2.length ≤ 1000000000) := hid (by have := sL_len x.most s; have := hsl.out; simp; omega)
              clear t0 t1 t2 HRE
              have rc0 : w7.cell? ⟨rb, 0, none⟩ = some (.slice ar nr cr) := blk_cell C6.out 0
              have rc1 : w7.cell? ⟨rb, 1, none⟩ = some (.int .i64 s.1) := blk_cell C6.out 1
              have rc2 := HS7.out.2.2.2.2.2
              have hgr : gw ≠ rb := by omega
              have hgr2 : rb ≠ gw := by omega
              have kdr := hid (Keeps.drew (Keeps.refl (fun _ => False) w7))
              go_upto_region 11 with fail
              go_region_with (first | (go_at_call 29; refine (VInts_any (fun k => k < w.heap.size) _ x.most s _ (R6.out.keep kdr.out (fun _ _ _ h => h)) HWX.out (by have := hsl.out; omega)).mono ?_; unfold VLPost; rintro e w8 ⟨v7, a8, n8, c8, rfl, hn8, hs8, hr7, hk⟩; obtain ⟨ar7, nr7, cr7, rfl⟩ := rv_form hr7; rw [HSE.out] at hr7 ⊢; have hk8 := kdr.out.trans hk; have BW8 := blk_keep BW.out hk8 (fun h => h); have C68 := blk_keep C6.out hk8 (fun h => h); have g0 : w8.frozen? ⟨rb, 0, none⟩ = false := blk_free C68 0; have g1 : w8.frozen? ⟨rb, 1, none⟩ = false := blk_free C68 1; have g2 : w8.frozen? ⟨gw, 4, none⟩ = false := blk_free BW8 4; have h0 : w8.cell? ⟨rb, 0, none⟩ = some (.slice ar nr cr) := blk_cell C68 0; have h1 : w8.cell? ⟨rb, 1, none⟩ = some (.int .i64 s.1) := blk_cell C68 1; have h2 : w8.cell? ⟨gw, 4, none⟩ = some (.slice none 0 0) := blk_cell BW8 4; replace hn8 := hid hn8; replace hs8 := hid hs8; replace hr7 := hid hr7; replace hk8 := hid hk8; clear hk BW8 C68))
              all_goals
                replace BW := hid (blk_keep BW.out hk8.out (fun h => h))
                replace C6 := hid (blk_keep C6.out hk8.out (fun h => h))
                replace B6 := hid (blk_keep B6.out hk8.out (fun h => h))
                replace S6 := hid (S6.out.keep hk8.out (fun _ _ _ h => h))
                replace L6 := hid (L6.out.keep hk8.out (fun _ _ _ h => h))
                replace X6 := hid (Rd.keep X6.out hk8.out (fun h => h) (fun _ _ _ h => h))
                have R7 := hr7
                replace K7 : Hd (Keeps (fun _ => False) w w8) := hid (K7.out.trans hk8.out)
                clear rc0 rc1 rc2
                go_upto_region 18 with fail
                first
                | (with_reducible change Code.wp _ _ _ _ (((w8.setCell ⟨rb, 0, none⟩ (.slice ar7 nr7 cr7)).setCell ⟨rb, 1, none⟩ (.int .i64 s'.1)).setCell ⟨gw, 4, none⟩ (.slice a8 n8 c8))
                   have kst : Keeps (fun b => b = rb ∨ b = gw) w8 (((w8.setCell ⟨rb, 0, none⟩ (.slice ar7 nr7 cr7)).setCell ⟨rb, 1, none⟩ (.int .i64 s'.1)).setCell ⟨gw, 4, none⟩ (.slice a8 n8 c8)) := ((keeps_set _ w8 _ _ (.inl rfl)).setCell (.inl (.inl rfl)) _).setCell (.inl (.inr rfl)) _
                   have HC6 := blk_other (c := gw) (blk_set (blk_set C6.out 0 (.slice ar7 nr7 cr7)) 1 (.int .i64 s'.1)) hgr 4 (.slice a8 n8 c8)
                   have HBW := blk_set (blk_other (c := rb) (blk_other (c := rb) BW.out hgr2 0 (.slice ar7 nr7 cr7)) hgr2 1 (.int .i64 s'.1)) 4 (.slice a8 n8 c8)
                   simp only [List.setIfInBounds_toArray, List.set_cons_zero, List.set_cons_succ] at HC6 HBW
                   generalize hw9 : ((w8.setCell ⟨rb, 0, none⟩ (.slice ar7 nr7 cr7)).setCell ⟨rb, 1, none⟩ (.int .i64 s'.1)).setCell ⟨gw, 4, none⟩ (.slice a8 n8 c8) = w9 at *)
                | (with_reducible change Code.wp _ _ _ _ (((w8.setCell ⟨gw, 4, none⟩ (.slice a8 n8 c8)).setCell ⟨rb, 0, none⟩ (.slice ar7 nr7 cr7)).setCell ⟨rb, 1, none⟩ (.int .i64 s'.1))
                   have kst : Keeps (fun b => b = rb ∨ b = gw) w8 (((w8.setCell ⟨gw, 4, none⟩ (.slice a8 n8 c8)).setCell ⟨rb, 0, none⟩ (.slice ar7 nr7 cr7)).setCell ⟨rb, 1, none⟩ (.int .i64 s'.1)) := ((keeps_set _ w8 _ _ (.inr rfl)).setCell (.inl (.inl rfl)) _).setCell (.inl (.inl rfl)) _
                   have HC6 := blk_set (blk_set (blk_other (c := gw) C6.out hgr 4 (.slice a8 n8 c8)) 0 (.slice ar7 nr7 cr7)) 1 (.int .i64 s'.1)
                   have HBW := blk_other (c := rb) (blk_other (c := rb) (blk_set BW.out 4 (.slice a8 n8 c8)) hgr2 0 (.slice ar7 nr7 cr7)) hgr2 1 (.int .i64 s'.1)
                   simp only [List.setIfInBounds_toArray, List.set_cons_zero, List.set_cons_succ] at HC6 HBW
                   generalize hw9 : ((w8.setCell ⟨gw, 4, none⟩ (.slice a8 n8 c8)).setCell ⟨rb, 0, none⟩ (.slice ar7 nr7 cr7)).setCell ⟨rb, 1, none⟩ (.int .i64 s'.1) = w9 at *)
                replace C6 := hid HC6; replace BW := hid HBW
                replace B6 := hid (blk_keep B6.out kst (by omega))
                replace S6 := hid (S6.out.keep kst (fun b hb h1 h2 => by omega))
                replace L6 := hid (L6.out.keep kst (fun b hb h1 h2 => by omega))
                replace X6 := hid (Rd.keep X6.out kst (by omega) (fun _ _ h1 h2 => by omega))
                replace R6 := hid (R7.out.keep kst (fun _ _ h1 h2 => by omega))
                replace K7 := hid (K7.out.trans' kst (fun _ _ h => by omega))
                have S8 := hid ((hs8.out.keep kst (fun b hb h1 h2 => by have : w7.heap.size ≤ b := h1; omega)).mono (K' := fun _ => True) (fun _ _ _ => trivial))
                clear kst HC6 HBW g0 g1 g2 h0 h1 h2 hw9
                have HIW : Hd (ItV (fun _ => True) w9 (.agg #[.int .i64 0, .int .u64 (0 : Nat), .int .i64 0, .slice none 0 0, .slice a8 n8 c8, .int .i64 0]) ⟨0, 0, 0, [], (sL x.most s).2, 0⟩) := hid ⟨_, _, _, _, _, _, rfl, Sl.nil _ _, S8.out⟩
                go_upto_region 18 with fail
                have HIT : Hd (ItV (fun _ => True) w9 (.agg #[.int .i64 r.kind, .int .u64 (r.u : Nat), .int .i64 r.n, .slice ab6 nb6 cb6, .slice al6 nl6 cl6, .int .i64 r.most]) r) := hid ⟨_, _, _, _, _, _, rfl, S6.out.mono (fun _ _ _ => trivial), L6.out.mono (fun _ _ _ => trivial)⟩
                have CS : Hd (∀ y : Ext w9, Calls Try.prog 32 #[.agg #[.int .i64 r.kind, .int .u64 (r.u : Nat), .int .i64 r.n, .slice ab6 nb6 cb6, .slice al6 nl6 cl6, .int .i64 r.most], .agg #[.int .i64 0, .int .u64 ((0 : Nat)), .int .i64 0, .slice none 0 0, .slice a8 n8 c8, .int .i64 0]] y.w fun e w' => e = .returned (.bool true) ∧ Keeps (fun _ => False) y.w w') := hid (fun y => same_any (fun _ => True) (fun _ => True) _ _ r ⟨0, 0, 0, [], (sL x.most s).2, 0⟩ y.w (itv_keep HIT.out y.k (fun _ _ _ h => h)) (itv_keep HIW.out y.k (fun _ _ _ h => h)) HEQ.out.1 HEQ.out.2.1 HEQ.out.2.2.1 HEQ.out.2.2.2 HYL.out.1 HYL.out.2)
                have CE : Hd (∀ y : Ext w9, Calls Try.prog 18 #[.pointer (some ⟨px, 0, none⟩)] y.w fun e w' => e = .returned (.int .i64 s'.1) ∧ y.w = w') := hid (fun y => RErr_any _ px _ _ (Rd.keep X6.out y.k (fun h => h) (fun _ _ _ h => h)))
                have CN : Hd (∀ y : Ext w9, Calls Try.prog 19 #[.pointer (some ⟨px, 0, none⟩)] y.w fun e w' => e = .returned (.int .i64 (sEnd s')) ∧ Drawn y.w w') := hid (fun y => REnd_any _ px _ _ (Rd.keep X6.out y.k (fun h => h) (fun _ _ _ h => h)))
                have CV : Hd (∀ y : Ext w9, Calls Try.prog 20 #[.agg #[.slice ar7 nr7 cr7, .int .i64 s'.1]] y.w fun e w' => e = .returned (.int .i64 (sEnd s')) ∧ Keeps (fun _ => False) y.w w') := hid (fun y => VEnd_any _ _ _ _ (R6.out.keep y.k (fun _ _ _ h => h)))
                have p0 : ∀ y : Ext w9, y.w.cell? ⟨g, 0, none⟩ = some _ := ext_bcell B6.out 0 rfl
                have p1 : ∀ y : Ext w9, y.w.cell? ⟨g, 1, none⟩ = some _ := ext_bcell B6.out 1 rfl
                have p2 : ∀ y : Ext w9, y.w.cell? ⟨g, 2, none⟩ = some _ := ext_bcell B6.out 2 rfl
                have p3 : ∀ y : Ext w9, y.w.cell? ⟨g, 3, none⟩ = some _ := ext_bcell B6.out 3 rfl
                have p4 : ∀ y : Ext w9, y.w.cell? ⟨g, 4, none⟩ = some _ := ext_bcell B6.out 4 rfl
                have p5 : ∀ y : Ext w9, y.w.cell? ⟨g, 5, none⟩ = some _ := ext_bcell B6.out 5 rfl
                have q0 : ∀ y : Ext w9, y.w.cell? ⟨gw, 0, none⟩ = some _ := ext_bcell BW.out 0 rfl
                have q1 : ∀ y : Ext w9, y.w.cell? ⟨gw, 1, none⟩ = some _ := ext_bcell BW.out 1 rfl
                have q2 : ∀ y : Ext w9, y.w.cell? ⟨gw, 2, none⟩ = some _ := ext_bcell BW.out 2 rfl
                have q3 : ∀ y : Ext w9, y.w.cell? ⟨gw, 3, none⟩ = some _ := ext_bcell BW.out 3 rfl
                have q4 : ∀ y : Ext w9, y.w.cell? ⟨gw, 4, none⟩ = some _ := ext_bcell BW.out 4 rfl
                have q5 : ∀ y : Ext w9, y.w.cell? ⟨gw, 5, none⟩ = some _ := ext_bcell BW.out 5 rfl
                have r0 : ∀ y : Ext w9, y.w.cell? ⟨rb, 0, none⟩ = some _ := ext_bcell C6.out 0 rfl
                have r1 : ∀ y : Ext w9, y.w.cell? ⟨rb, 1, none⟩ = some _ := ext_bcell C6.out 1 rfl
                refine wp_region_ext (by kernel_rfl) (by kernel_rfl) ?_
                repeat (go_big_quiet_step (first | (go_at_call 32; exact ext_call (CS.out _)) | (go_at_call 18; exact ext_same (CE.out _)) | (go_at_call 19; exact ext_drawn (CN.out _)) | (go_at_call 20; exact ext_call (CV.out _))))
                refine wpQuiet_nil ?_
                rintro _ ⟨y, rfl⟩
                clear p0 p1 p2 p3 p4 p5 q0 q1 q2 q3 q4 q5 r0 r1
                have X8 := hid (Rd.keep X6.out y.k (fun h => h) (fun _ _ _ h => h))
                have R8 := hid (R6.out.keep y.k (fun _ _ _ h => h))
                have C8 := hid (blk_keep C6.out y.k (fun h => h))
                have K8 := hid (K7.out.trans y.k)
                go_wp2
                go_roundw
                case rel => exact ⟨k + 1, s', ar7, nr7, cr7, by go_num, by omega, X8, R8, C8, HSL', K8⟩
                case measure => simp [intOf]; omega
    · have hkn : k = m := by omega
      subst hkn
      clear hkm
      go_wp2_with fail
      refine (lives_any _).mono ?_
      rintro e w7 ⟨rfl, hk7⟩
      have K7 := hid (K0.out.trans hk7)
      clear hk7
      go_wp2
      go_ret
      exact ⟨rfl, K7.out⟩
end Go.Proofs.Ytlebocjcelbbpaa
