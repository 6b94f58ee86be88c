/- The walk of WireRound. -/
import Derived.Test.YtlebocjcelbbpaaWireGot
import Derived.Test.YtlebocjcelbbpaaRegion
import Derived.Deep.Cut
import Derived.Deep.CutRange
import Derived.BigQuiet
namespace Go.Proofs.Ytlebocjcelbbpaa
open Go.RowKit
attribute [local go_sem ↓] Go.wp_at_zero Go.wp_at_succ
set_option maxRecDepth 100000 in set_option maxHeartbeats 1000000 in
theorem wireRound_any (v : Value) (l : List It) (w : World) (hv : Its (fun k => k < w.heap.size) w v l) (hok : ∀ x ∈ l, x.ok) (hw : wts l ≤ 1000000000) :
    Calls Try.prog 9 #[v] w fun e w' => e = .returned (.bool true) ∧ Keeps (fun _ => False) w w' := by
  have HV := hid hv; have HOK := hid hok; have HW := hid hw
  obtain ⟨a, cap, rfl, hx⟩ := hv.at
  have HX := hid hx
  clear hx hv hok hw
  have hle : Hd ((encAll l).length ≤ 1000000000) := hid (by have := encAll_len (l := l) HOK.out (by have := HW.out; omega); have := HW.out; omega)
  have hnn : l.length ≤ 1000000000 := by have := wts_len l; have := HW.out; omega
  generalize hll : l.length = m at *
  have HLL := hid hll; clear hll
  go_enter Try.func9, Try.ntmps9
  go_wp2_with fail
  refine (written_any _ _ l _ HV.out (fun _ h => h) HOK.out (by have := HW.out; omega)).mono ?_
  rintro e w1 ⟨a1, n1, c1, rfl, hn, ho, hk⟩
  have H1 : Hd (Sl (fun b => w.heap.size ≤ b) w1 (.slice a1 n1 c1) (u8s (encAll l))) := hid (row_sl ho.row hn.symm)
  have K1 := hid hk
  clear hn ho hk
  go_wp2_with fail
  refine (NewReader_any _ _ (encAll l) _ H1.out (by have := hle.out; omega) (encAll_lt HOK.out)).mono ?_
  rintro e w2 ⟨px, rfl, h1, h2, h3⟩
  have zk := K1.out.size
  have X2 : Hd (Rd (fun k => w.heap.size ≤ k ∧ k < px) w2 px (0, encAll l)) := hid (h1.mono (fun k h _ => by omega) (fun h => by omega))
  have K2 := hid (K1.out.trans h3)
  have hpx : w.heap.size ≤ px := by omega
  clear h1 h2 h3 H1 zk
  go_wp2_with fail
  go_loopw [4] (fun i wr => ∃ k : Nat, i = .int .i64 k ∧ k ≤ m ∧ Hd (Rd (fun k => w.heap.size ≤ k ∧ k < px) wr px (0, encAll (l.drop k))) ∧ Hd (Keeps (fun _ => False) w wr)) (fun i _ => m - (intOf i).toNat)
  case atStart => exact ⟨0, rfl, by omega, X2, K2⟩
  case round =>
    clear X2 K2
    obtain ⟨k, rfl, hk, X5, K0⟩ := hrel
    by_cases hkm : k < m
    · obtain ⟨x, b, o, ab, cb, al, cl, hxk, hxm, rfl, hb0, e0, e1, e2, e3, e4, e5, hb, hl⟩ := HX.out k hkm
      have k1 : (k : Int) < m := by omega
      have k2 : (0 : Int) ≤ k := by omega
      have f0 := keep_cell K0.out (fun h => h) e0
      have f1 := keep_cell K0.out (fun h => h) e1
      have f2 := keep_cell K0.out (fun h => h) e2
      have f3 := keep_cell K0.out (fun h => h) e3
      have f4 := keep_cell K0.out (fun h => h) e4
      have f5 := keep_cell K0.out (fun h => h) e5
      have hpz : px < wr.heap.size := X5.out.lt
      have hbp : b ≠ px := by omega
      have SB : Hd (Sl (fun b => b < w.heap.size) wr (.slice ab x.b.length cb) (u8s x.b)) := hid (hb.keep K0.out (fun _ _ _ h => h))
      have SLI : Hd (Sl (fun b => b < w.heap.size) wr (.slice al x.l.length cl) (i64s x.l)) := hid (hl.keep K0.out (fun _ _ _ h => h))
      have HBL : Hd (x.b.length ≤ 1000000000 ∧ x.l.length ≤ 1000000000) := hid (by have h1 := wts_mem hxm; have h2 := HW.out; unfold It.wt at h1; omega)
      have HWX : Hd ((lenIt x : Int) ≤ 9223372036854775807) := hid (by have h1 := wts_mem hxm; have h2 := HW.out; unfold It.wt at h1; unfold lenIt; split <;> omega)
      have HRE := hid (rdIt_enc (encAll (l.drop (k + 1))) (HOK.out _ hxm) (by have h1 := wts_mem hxm; have h2 := HW.out; omega))
      have HXO := hid (HOK.out _ hxm)
      have HDR : Hd (encAll (l.drop k) = encIt x ++ encAll (l.drop (k + 1))) := hid (by
        have hk' : k < l.length := by rw [HLL.out]; exact hkm
        rw [List.getElem?_eq_getElem hk'] at hxk
        injection hxk with hxk
        rw [List.drop_eq_getElem_cons hk', hxk]; exact List.flatMap_cons)
      have HLX : Hd ((encAll (l.drop k)).length ≤ 1000000000000) := hid (by
        have h1 := encAll_len (l := l.drop k) (fun y hy => HOK.out y (List.mem_of_mem_drop hy)) (by have h2 := wts_append (l.take k) (l.drop k); rw [List.take_append_drop] at h2; have := HW.out; omega)
        have h2 := wts_append (l.take k) (l.drop k); rw [List.take_append_drop] at h2; have := HW.out; omega)
      obtain ⟨s', r, hrd⟩ : ∃ s' r, rdIt x.kind (lenIt x) (0, encIt x ++ encAll (l.drop (k + 1))) = (s', r) := ⟨_, _, rfl⟩
      rw [hrd] at HRE
      have hrd2 : rdIt x.kind (lenIt x) (0, encAll (l.drop k)) = (s', r) := by rw [HDR.out]; exact hrd
      have HRD := hid hrd2
      have HSS : Hd (∀ w', Keeps (fun b => b = px) wr w' → (w'.cell? ⟨b, o + k * 6, none⟩ = some (.int .i64 x.kind) ∧ w'.cell? ⟨b, o + k * 6 + 1, none⟩ = some (.int .u64 (x.u : Nat)) ∧ w'.cell? ⟨b, o + k * 6 + 2, none⟩ = some (.int .i64 x.n) ∧ w'.cell? ⟨b, o + k * 6 + 3, none⟩ = some (.slice ab x.b.length cb) ∧ w'.cell? ⟨b, o + k * 6 + 4, none⟩ = some (.slice al x.l.length cl) ∧ w'.cell? ⟨b, o + k * 6 + 5, none⟩ = some (.int .i64 x.most))) :=
        hid (fun w' hk => ⟨keep_cell hk hbp f0, keep_cell hk hbp f1, keep_cell hk hbp f2, keep_cell hk hbp f3, keep_cell hk hbp f4, keep_cell hk hbp f5⟩)
      have HIV : Hd (ItV (fun b => b < w.heap.size) wr (.agg #[.int .i64 x.kind, .int .u64 (x.u : Nat), .int .i64 x.n, .slice ab x.b.length cb, .slice al x.l.length cl, .int .i64 x.most]) x) := hid ⟨ab, _, cb, al, _, cl, rfl, SB.out, SLI.out⟩
      clear e0 e1 e2 e3 e4 e5 f0 f1 f2 f3 f4 f5 hb hl hxk hxm hrd hrd2
      go_upto_region 7 with fail
      go_cut [5] from 18 to 28 (fun u5 wx => GotR (fun k => w.heap.size ≤ k ∧ k < px) px wr s' r u5 wx)
      case first =>
        have L5 : Hd (Keeps (fun _ => False) wr wr) := hid (Keeps.refl _ _)
        have z5 := Nat.le_refl wr.heap.size
        go_region_held (fun w' => w'.cell? ⟨b, o + k * 6, none⟩ = some (.int .i64 x.kind) ∧ w'.cell? ⟨b, o + k * 6 + 1, none⟩ = some (.int .u64 (x.u : Nat)) ∧ w'.cell? ⟨b, o + k * 6 + 2, none⟩ = some (.int .i64 x.n) ∧ w'.cell? ⟨b, o + k * 6 + 3, none⟩ = some (.slice ab x.b.length cb) ∧ w'.cell? ⟨b, o + k * 6 + 4, none⟩ = some (.slice al x.l.length cl) ∧ w'.cell? ⟨b, o + k * 6 + 5, none⟩ = some (.int .i64 x.most)) ((refine HSS.out _ ?_; repeat (first | (with_reducible exact K6.out) | (with_reducible exact (L5.out.mono (fun _ _ h => h.elim))) | (with_reducible exact Keeps.refl _ _) | (with_reducible apply Keeps.drewN) | (with_reducible apply Keeps.drew) | (with_reducible apply Keeps.alloc) | refine Keeps.setCell ?_ (.inr (by first | (simp; done) | (simp; omega) | omega)) _)))
          (first
          | (go_at_call 34; refine (lenIt_any (fun b => b < w.heap.size) _ x _ (itv_keep (S := fun _ => False) HIV.out (by repeat (first | (with_reducible exact L5.out) | (with_reducible exact Keeps.refl _ _) | (with_reducible apply Keeps.drewN) | (with_reducible apply Keeps.drew) | (with_reducible apply Keeps.alloc))) (fun _ _ _ h => h))).mono ?_; rintro e w5 ⟨rfl, hk⟩; have KK : Keeps (fun _ => False) wr w5 := Keeps.trans (S := fun _ => False) (by repeat (first | (with_reducible exact L5.out) | (with_reducible exact Keeps.refl _ _) | (with_reducible apply Keeps.drewN) | (with_reducible apply Keeps.drew) | (with_reducible apply Keeps.alloc))) hk; (try (have NB := hid (blk_keep (blk_drew (blk_new wr itZero 46)) hk (fun h => h)))); replace L5 := hid KK; have z5 := KK.size; clear hk KK)
          | (go_at_call 31; refine (read_any (fun k => w.heap.size ≤ k ∧ k < px) px (0, encAll (l.drop k)) _ _ _ _ (lenIt x : Nat) _ _ _ _ _ _ _ (Rd.keep (S := fun _ => False) X5.out (by repeat (first | (with_reducible exact L5.out) | (with_reducible exact Keeps.refl _ _) | (with_reducible apply Keeps.drewN) | (with_reducible apply Keeps.drew) | (with_reducible apply Keeps.alloc))) (fun h => h) (fun _ _ _ h => h)) HWX.out HLX.out).mono ?_; unfold ReadPost; rw [HRD.out]; rintro e w6 ⟨vr, rfl, ⟨ab6, nb6, cb6, al6, nl6, cl6, rfl, hb6, hl6⟩, hr6, hk⟩; have KK : Keeps (fun b => b = px) wr w6 := Keeps.trans' (S := fun b => b = px) (by repeat (first | (with_reducible exact K6.out) | (with_reducible exact (L5.out.mono (fun _ _ h => h.elim))) | (with_reducible exact Keeps.refl _ _) | (with_reducible apply Keeps.drewN) | (with_reducible apply Keeps.drew) | (with_reducible apply Keeps.alloc) | refine Keeps.setCell ?_ (.inr (by first | (simp; done) | (simp; omega) | omega)) _)) hk (fun _ _ h => h); (try (have NB2 := hid (blk_keep NB.out hk (by omega)); have F0 : w6.cell? ⟨_, 0, none⟩ = some (.int .i64 0) := blk_cell NB2.out 0; have F1 : w6.cell? ⟨_, 1, none⟩ = some (.int .u64 0) := blk_cell NB2.out 1; have F2 : w6.cell? ⟨_, 2, none⟩ = some (.int .i64 0) := blk_cell NB2.out 2; have F3 : w6.cell? ⟨_, 3, none⟩ = some (.slice none 0 0) := blk_cell NB2.out 3; have F4 : w6.cell? ⟨_, 4, none⟩ = some (.slice none 0 0) := blk_cell NB2.out 4; have F5 : w6.cell? ⟨_, 5, none⟩ = some (.int .i64 0) := blk_cell NB2.out 5; have G0 := blk_free NB2.out 0; have G1 := blk_free NB2.out 1; have G2 := blk_free NB2.out 2; have G3 := blk_free NB2.out 3; have G4 := blk_free NB2.out 4; have G5 := blk_free NB2.out 5)); (try (have NB2 := hid (blk_keep (blk_new w5 itZero 46) hk (by omega)); have F0 : w6.cell? ⟨_, 0, none⟩ = some (.int .i64 0) := blk_cell NB2.out 0; have F1 : w6.cell? ⟨_, 1, none⟩ = some (.int .u64 0) := blk_cell NB2.out 1; have F2 : w6.cell? ⟨_, 2, none⟩ = some (.int .i64 0) := blk_cell NB2.out 2; have F3 : w6.cell? ⟨_, 3, none⟩ = some (.slice none 0 0) := blk_cell NB2.out 3; have F4 : w6.cell? ⟨_, 4, none⟩ = some (.slice none 0 0) := blk_cell NB2.out 4; have F5 : w6.cell? ⟨_, 5, none⟩ = some (.int .i64 0) := blk_cell NB2.out 5; have G0 := blk_free NB2.out 0; have G1 := blk_free NB2.out 1; have G2 := blk_free NB2.out 2; have G3 := blk_free NB2.out 3; have G4 := blk_free NB2.out 4; have G5 := blk_free NB2.out 5)); have K6 := hid KK; replace hb6 := hid hb6; replace hl6 := hid hl6; replace hr6 := hid hr6; have z6 := KK.size; clear hk KK))
        -- TAIL
        all_goals
          go_wp2_with fail
          go_meet
          first
          | with_reducible exact gotR_new z5 hb6 hl6 hr6 K6
          | with_reducible exact gotR_old (Nat.le_refl _) (blk_lt NB.out) hpz (by omega) hb6 hl6 hr6 K6 NB2
          | with_reducible exact gotR_old z5 (by simp) hpz (by omega) hb6 hl6 hr6 K6 NB2
          | with_reducible exact gotR_drew (gotR_new z5 hb6 hl6 hr6 K6)
      case rest =>
        obtain ⟨g, ab6, nb6, cb6, al6, nl6, cl6, rfl, hg, B6, S6, L6, X6, K6⟩ := hcut
        generalize wc = w6 at *
        have zg : w.heap.size ≤ g := by omega
        have hgp : g ≠ px := by omega
        have f0 := (HSS.out _ K6.out).1
        have HS' : Hd (s' = (0, encAll (l.drop (k + 1)))) := hid HRE.out.1
        have K7 : Hd (Keeps (fun _ => False) w w6) := hid (K0.out.trans' K6.out (fun i hi hs => by omega))
        clear HIV HRD HLX HDR
        by_cases t0 : x.kind = 0
        · have hfld := HRE.out.2.1 t0
          have c0 : (x.kind == 0) = true := by simp; exact t0
          clear t0
          go_upto_region 12 with fail
          have e1 : ∀ y : Ext w6, y.w.cell? ⟨g, 1, none⟩ = some _ := ext_bcell B6.out 1 rfl
          have e2 := ext_cell (HSS.out _ K6.out).2.1
          rw [hfld] at e1
          clear hfld
          refine wp_region_ext (by kernel_rfl) (by kernel_rfl) ?_
          repeat (go_big_quiet_step (fail))
          refine wpQuiet_nil ?_
          rintro _ ⟨y, rfl⟩
          clear e1 e2
          have X8 := hid (Rd.keep X6.out y.k (fun h => h) (fun _ _ _ h => h))
          have K8 := hid (K7.out.trans y.k)
          rw [HS'.out] at X8
          go_wp2
          go_roundw
          case rel => exact ⟨k + 1, by go_num, by omega, X8, K8⟩
          case measure => simp [intOf]; omega
        · have c0 : (x.kind == 0) = false := by simp; exact t0
          by_cases t1 : x.kind = 1
          · have hfld := HRE.out.2.2.1 t1
            have c1 : (x.kind == 1) = true := by simp; exact t1
            clear t1 t0
            go_upto_region 14 with fail
            have e1 : ∀ y : Ext w6, y.w.cell? ⟨g, 2, none⟩ = some _ := ext_bcell B6.out 2 rfl
            have e2 := ext_cell (HSS.out _ K6.out).2.2.1
            rw [hfld] at e1
            clear hfld
            refine wp_region_ext (by kernel_rfl) (by kernel_rfl) ?_
            repeat (go_big_quiet_step (fail))
            refine wpQuiet_nil ?_
            rintro _ ⟨y, rfl⟩
            clear e1 e2
            have X8 := hid (Rd.keep X6.out y.k (fun h => h) (fun _ _ _ h => h))
            have K8 := hid (K7.out.trans y.k)
            rw [HS'.out] at X8
            go_wp2
            go_roundw
            case rel => exact ⟨k + 1, by go_num, by omega, X8, K8⟩
            case measure => simp [intOf]; omega
          · have c1 : (x.kind == 1) = false := by simp; exact t1
            by_cases t2 : x.kind = 2
            · have hfld := HRE.out.2.2.2.1 t2
              have c2 : (x.kind == 2) = true := by simp; exact t2
              clear t2 t1 t0
              go_upto_region 16 with fail
              have e1 : ∀ y : Ext w6, y.w.cell? ⟨g, 3, none⟩ = some _ := ext_bcell B6.out 3 rfl
              have e2 := ext_cell (HSS.out _ K6.out).2.2.2.1
              have HC : Hd (∀ y : Ext w6, Calls Try.prog 22 #[.slice ab6 nb6 cb6, .slice ab x.b.length cb] y.w fun e w' => e = .returned (.bool true) ∧ Drawn y.w w') := hid (fun y => sameB_true (by have := S6.out; rw [hfld] at this; exact this.keep y.k (fun _ _ _ h => h)) (SB.out.keep (K6.out.trans' y.k (fun _ _ h => h.elim)) (fun _ _ h1 h2 => by omega)) HBL.out.1)
              clear hfld
              refine wp_region_ext (by kernel_rfl) (by kernel_rfl) ?_
              repeat (go_big_quiet_step (first | (go_at_call 22; exact ext_drawn (HC.out _))))
              refine wpQuiet_nil ?_
              rintro _ ⟨y, rfl⟩
              clear e1 e2
              have X8 := hid (Rd.keep X6.out y.k (fun h => h) (fun _ _ _ h => h))
              have K8 := hid (K7.out.trans y.k)
              rw [HS'.out] at X8
              go_wp2
              go_roundw
              case rel => exact ⟨k + 1, by go_num, by omega, X8, K8⟩
              case measure => simp [intOf]; omega
            · have hfld := HRE.out.2.2.2.2 t0 t1 t2
              have c2 : (x.kind == 2) = false := by simp; exact t2
              clear t2 t1 t0
              go_upto_region 10 with fail
              have e1 : ∀ y : Ext w6, y.w.cell? ⟨g, 4, none⟩ = some _ := ext_bcell B6.out 4 rfl
              have e2 := ext_cell (HSS.out _ K6.out).2.2.2.2.1
              have HC : Hd (∀ y : Ext w6, Calls Try.prog 30 #[.slice al6 nl6 cl6, .slice al x.l.length cl] y.w fun e w' => e = .returned (.bool true) ∧ Drawn y.w w') := hid (fun y => sameI_true (by have := L6.out; rw [hfld] at this; exact this.keep y.k (fun _ _ _ h => h)) (SLI.out.keep (K6.out.trans' y.k (fun _ _ h => h.elim)) (fun _ _ h1 h2 => by omega)) HBL.out.2)
              clear hfld
              refine wp_region_ext (by kernel_rfl) (by kernel_rfl) ?_
              repeat (go_big_quiet_step (first | (go_at_call 30; exact ext_drawn (HC.out _))))
              refine wpQuiet_nil ?_
              rintro _ ⟨y, rfl⟩
              clear e1 e2
              have X8 := hid (Rd.keep X6.out y.k (fun h => h) (fun _ _ _ h => h))
              have K8 := hid (K7.out.trans y.k)
              rw [HS'.out] at X8
              go_wp2
              go_roundw
              case rel => exact ⟨k + 1, by go_num, by omega, X8, K8⟩
              case measure => simp [intOf]; omega
    · have hkn : k = m := by omega
      subst hkn
      have hd0 : Hd (encAll (l.drop k) = []) := hid (by rw [List.drop_eq_nil_of_le (by rw [HLL.out]; exact Nat.le_refl _)]; rfl)
      have hse : Hd (sEnd (0, encAll (l.drop k)) = 0) := hid (by rw [hd0.out]; simp [sEnd])
      clear hkm
      go_wp2_with fail
      refine (REnd_any _ px _ _ X5.out).mono ?_
      rw [hse.out]
      rintro e w6 ⟨rfl, hd⟩
      have K6 := hid (K0.out.trans (drawn_keeps (fun _ => False) hd))
      clear hd
      go_wp2_with fail
      refine (lives_any _).mono ?_
      rintro e w7 ⟨rfl, hk7⟩
      have K7 := hid (K6.out.trans hk7)
      clear hk7
      go_wp2
      go_ret
      exact ⟨rfl, K7.out⟩
end Go.Proofs.Ytlebocjcelbbpaa
