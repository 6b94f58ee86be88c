/- Frame: rounds until everything is delivered. -/
import Derived.Test.YthoikljmokkchaaDoorFrWF
import Derived.Lib.MinMax
namespace Go.Proofs.YthoikljmokkchaaDoor
open Go.RowKit
attribute [local go_sem ↓] Go.wp_at_zero Go.wp_at_succ
set_option maxRecDepth 100000 in
set_option maxHeartbeats 8000000 in
theorem complete_any (key : Nat) (m : WM) (n : Nat) (p : Nat) (K D : Nat → Prop) (w : World) (hw : WRx K D w p m) (hK : ∀ b, w.heap.size ≤ b → K b ∧ D b) (hi : WInv key m n) (ho : WOk m n) (hn : n ≤ 1000) :
    Calls Tryd.prog 34 #[.pointer (some ⟨p, 0, none⟩)] w fun e w' => e = .returned (.bool true) ∧ (∃ m2, m2.s.bs = m.s.bs ∧ m2.gt = m.s.bs ∧ (∀ x ∈ m2.s.bs, ∀ c ∈ x, c < 256) ∧ WRx K D w' p m2) ∧ Keeps K w w' := by
  have HKF := hid hK
  have HI := hid hi; have HO := hid ho
  have hbn := hi.bn; have hn0 := hi.r.n0; have hn1 := hi.r.n1
  obtain ⟨sn, hsn⟩ : ∃ k : Nat, m.s.bs.length = k := ⟨_, rfl⟩
  have HSN := hid hsn
  rw [hsn] at hbn hn1
  obtain ⟨nx, hnx⟩ : ∃ x, m.r.nx = x := ⟨_, rfl⟩
  have HNX := hid hnx
  rw [hnx] at hn0 hn1
  have HLAW : Hd (∀ k : Nat, k ≤ 100 → WInv key (roundsM m k) (n + 16 * k) ∧ WOk (roundsM m k) (n + 16 * k) ∧ (roundsM m k).s.bs = m.s.bs ∧ min (nx + 16 * (k : Int)) (sn : Int) ≤ (roundsM m k).r.nx) := hid (fun k hk => by
    have h := rounds_law HI.out k (by omega)
    rw [hnx, hsn] at h
    exact ⟨h.1, wok_rounds HI.out HO.out k (by omega), h.2⟩)
  have HW0 := hid hw
  have hpl : p < w.heap.size := by
    obtain ⟨sa, sc, aa, ac, fa, fc, ra, rc, ga, gc, h⟩ := hw
    exact blk_lt h.blk
  obtain ⟨sa, sc, aa, ac, fa, fc, ra, rc, ga, gc, hw1⟩ := hw
  have hblk := hw1.blk
  rw [hsn, hnx] at hblk
  have r0 : w.cell? ⟨p, 0, none⟩ = some (.slice sa sn sc) := blk_cell hblk 0
  have r4 : w.cell? ⟨p, 4, none⟩ = some (.int .i64 nx) := blk_cell hblk 4
  have hw1 : IntKind.i64.wrap ((sn : Int) - nx) = (sn : Int) - nx := IntWalk.i64_in _ (by omega)
  clear hblk hi ho hK hsn hnx
  go_enter Tryd.func34, Tryd.ntmps34
  go_wp2_with fail
  go_loopw [4] (fun iv wr => ∃ (k : Nat) (lf : Int), iv = .int .i64 lf ∧ lf = (sn : Int) - nx - 16 * (k : Int) ∧ 16 * (k : Int) < (sn : Int) - nx + 16 ∧ Hd (WRx K D wr p (roundsM m k)) ∧ Hd (Keeps K w wr)) (fun iv _ => (intOf iv).toNat)
  case atStart => exact ⟨0, (sn : Int) - nx, rfl, by omega, by omega, HW0, hid (Keeps.refl _ _)⟩
  case round =>
    obtain ⟨V, rfl⟩ : ∃ V, V = wr := ⟨_, rfl⟩
    obtain ⟨k, lf, rfl, hlf, hk16, HW, HK⟩ := hrel
    clear HW0 r0 r4 hw1
    have zV := HK.out.size
    have hk100 : k ≤ 90 := by omega
    by_cases hlt : 0 < lf
    · have HRD : Hd (Calls Tryd.prog 74 #[.pointer (some ⟨p, 0, none⟩)] V fun e w' => e = .returned (.bool true) ∧ WRx K D w' p (roundsM m (k + 1)) ∧ Keeps K V w') := hid (round_any key (roundsM m k) (n + 16 * k) p K D V HW.out (fun b hb => HKF.out b (by omega)) (HLAW.out k (by omega)).1 (HLAW.out k (by omega)).2.1 (by omega))
      go_wp2_with fail
      refine HRD.out.mono ?_
      rintro e V2 ⟨rfl, hw2, hk2⟩
      have HW2 := hid hw2; have HK2 := hid (HK.out.trans hk2)
      clear HRD HW HK hk2
      obtain ⟨-, -, hbs, hmin⟩ := HLAW.out (k + 1) (by omega)
      have r4 : V2.cell? ⟨p, 4, none⟩ = some (.int .i64 (roundsM m (k + 1)).r.nx) := by
        obtain ⟨sa, sc, aa, ac, fa, fc, ra, rc, ga, gc, h⟩ := hw2
        exact blk_cell h.blk 4
      clear hw2
      obtain ⟨ny, hny⟩ : ∃ y, (roundsM m (k + 1)).r.nx = y := ⟨_, rfl⟩
      rw [hny] at r4 hmin
      have s1 : IntKind.i64.wrap ((sn : Int) - lf) = (sn : Int) - lf := IntWalk.i64_in _ (by omega)
      have s2 : IntKind.i64.wrap ((sn : Int) - lf + 16) = (sn : Int) - lf + 16 := IntWalk.i64_in _ (by omega)
      have s3 : IntKind.i64.wrap (lf - 16) = lf - 16 := IntWalk.i64_in _ (by omega)
      have t1 : decide (ny < min (sn : Int) ((sn : Int) - lf + 16)) = false := decide_eq_false (by push_cast at hmin; omega)
      have t2 : ¬ (ny < min (sn : Int) ((sn : Int) - lf + 16)) := by push_cast at hmin; omega
      have t3 : min (sn : Int) ((sn : Int) - lf + 16) ≤ ny := by omega
      go_wp2
      go_roundw
      case rel => exact ⟨k + 1, _, rfl, by push_cast; omega, by push_cast; omega, HW2, HK2⟩
      case measure => simp [intOf]; omega
    · have hle : (sn : Int) - nx ≤ 16 * (k : Int) := by omega
      obtain ⟨g1, g2, g3, g4⟩ := HLAW.out k (by omega)
      have hg : ((roundsM m k).s.bs.length : Int) ≤ (roundsM m k).r.nx := by rw [g3, HSN.out]; omega
      obtain ⟨e1, e2, e3, e4, e5⟩ := winv_end g1 hg
      have HG1 := hid g1; have HG2 := hid g2; have HG3 := hid g3; have HE1 := hid e1; have HE2 := hid e2; have HE3 := hid e3; have HE5 := hid e5
      clear g1 g2 g3 g4 hg e1 e2 e3 e4 e5
      generalize roundsM m k = m2 at *
      obtain ⟨⟨bs, a, ⟨k2, i2⟩⟩, ⟨nx2, fs, lk, ⟨rk, ri⟩⟩, FSq, RP, GT⟩ := m2
      simp only [] at HG3 HE1 HE2 HE3
      have hfs := HE2.out
      subst hfs
      obtain ⟨sa, sc, aa, ac, fa, fc, ra, rc, ga, gc, hw2⟩ := HW.out
      have HWR := hid hw2
      have hblk := hw2.blk
      have hah := hw2.ah
      simp only [] at hblk hah
      have hbl : bs.length = sn := by rw [HG3.out]; exact HSN.out
      have hnx2 : nx2 = (sn : Int) := by rw [HE1.out, hbl]
      have HAH : Hd (Frs (fun _ => True) V (.slice aa 0 ac) []) := hid (hah.mono (fun _ _ _ => trivial))
      have HLK : Hd (lk = false) := hid HG1.out.r.lk
      have hlk := HLK.out
      subst hnx2
      subst hlk
      rw [hbl] at hblk
      have ha0 : 0 ≤ a := HG1.out.a0
      have ha1 : a ≤ (sn : Int) := HG1.out.a1
      have hri0 : 0 ≤ ri := HG1.out.r.kd.1
      have HBL := hid hbl
      have HMI0 : Hd (missM ⟨bs, a, ⟨k2, i2⟩⟩ ⟨(sn : Int), 0, ri, false⟩ = []) := hid HE5.out
      clear hw2 hah HE1 HE2 HE5 hbl HLAW
      have HST : Hd (∀ X, Keeps (fun _ => False) V X → Calls Tryd.prog 28 #[.agg #[.int .i64 (sn : Int), .slice aa 0 ac, .bool false, .int .u64 (rk : Int), .int .i64 ri]] X fun e w' => e = .returned (.agg #[.int .i64 (sn : Int), .int .i64 0, .int .i64 ri, .bool false]) ∧ Keeps (fun _ => False) X w') := hid (fun X hx => by
        have h := State_any [] aa ac (sn : Int) false ⟨rk, ri⟩ _ X (HAH.out.keep hx (fun _ _ _ h => h)) (by simp) (by omega) (by omega) (fun y hy => by cases hy)
        exact h)
      have HMS : Hd (∀ X, Calls Tryd.prog 48 #[.agg #[.slice sa sn sc, .int .i64 a, .int .u64 (k2 : Int), .int .i64 i2], .agg #[.int .i64 (sn : Int), .int .i64 0, .int .i64 ri, .bool false]] X fun e w' => ∃ am cm, e = .returned (.slice am 0 cm) ∧ Keeps (fun _ => False) X w') := hid (fun X => by
        have h := Missing_any sn sa sc a ⟨k2, i2⟩ (sn : Int) 0 ri false X (by omega) (.inr (by omega)) (by omega) (by omega) ha0 (by omega) (by omega) (by omega)
        have e := HMI0.out
        unfold missM at e
        simp only [HBL.out] at e
        exact h.mono (fun e' w' ⟨am, mn, cm, g1, g2, g3, g4⟩ => by
          have hmn : mn = 0 := by rw [g3]; exact congrArg List.length e
          subst hmn
          exact ⟨am, cm, g1, g4⟩))
      have HBP : Hd (Blk V p #[.slice sa sn sc, .int .i64 a, .int .u64 (k2 : Int), .int .i64 i2, .int .i64 (sn : Int), .slice aa 0 ac, .bool false, .int .u64 (rk : Int), .int .i64 ri, .slice fa FSq.length fc, .slice ra RP.length rc, .slice ga GT.length gc] 60) := hid hblk
      clear hblk
      have t1 : ((sn : Int) == (sn : Int)) = true := by simp
      have o0 : V.cell? ⟨p, 4, none⟩ = some (.int .i64 (sn : Int)) := blk_cell HBP.out 4
      have hfd : ∀ X, (Instr.field 50 (.agg #[.int .i64 (sn : Int), .int .i64 0, .int .i64 ri, .bool false]) 1).run Tryd.prog X = .ok (.int .i64 0) X := fun X => rfl
      go_upto_region 7 with fail
      have KC : Hd (Keeps (fun _ => False) V V) := hid (Keeps.refl _ _)
      have HSS : Hd (∀ w', Keeps (fun _ => False) V w' → (w'.cell? ⟨p, 0, none⟩ = some ((.slice sa sn sc)) ∧ w'.cell? ⟨p, 1, none⟩ = some ((.int .i64 a)) ∧ w'.cell? ⟨p, 2, none⟩ = some ((.int .u64 (k2 : Int))) ∧ w'.cell? ⟨p, 3, none⟩ = some ((.int .i64 i2)) ∧ w'.cell? ⟨p, 4, none⟩ = some ((.int .i64 (sn : Int))) ∧ w'.cell? ⟨p, 5, none⟩ = some ((.slice aa 0 ac)) ∧ w'.cell? ⟨p, 6, none⟩ = some ((.bool false)) ∧ w'.cell? ⟨p, 7, none⟩ = some ((.int .u64 (rk : Int))) ∧ w'.cell? ⟨p, 8, none⟩ = some ((.int .i64 ri)))) := hid (fun w' hk => ⟨blk_cell (blk_keep HBP.out hk (fun h => h)) 0, blk_cell (blk_keep HBP.out hk (fun h => h)) 1, blk_cell (blk_keep HBP.out hk (fun h => h)) 2, blk_cell (blk_keep HBP.out hk (fun h => h)) 3, blk_cell (blk_keep HBP.out hk (fun h => h)) 4, blk_cell (blk_keep HBP.out hk (fun h => h)) 5, blk_cell (blk_keep HBP.out hk (fun h => h)) 6, blk_cell (blk_keep HBP.out hk (fun h => h)) 7, blk_cell (blk_keep HBP.out hk (fun h => h)) 8⟩)
      go_region_held (fun w' => w'.cell? ⟨p, 0, none⟩ = some ((.slice sa sn sc)) ∧ w'.cell? ⟨p, 1, none⟩ = some ((.int .i64 a)) ∧ w'.cell? ⟨p, 2, none⟩ = some ((.int .u64 (k2 : Int))) ∧ w'.cell? ⟨p, 3, none⟩ = some ((.int .i64 i2)) ∧ w'.cell? ⟨p, 4, none⟩ = some ((.int .i64 (sn : Int))) ∧ w'.cell? ⟨p, 5, none⟩ = some ((.slice aa 0 ac)) ∧ w'.cell? ⟨p, 6, none⟩ = some ((.bool false)) ∧ w'.cell? ⟨p, 7, none⟩ = some ((.int .u64 (rk : Int))) ∧ w'.cell? ⟨p, 8, none⟩ = some ((.int .i64 ri))) ((refine HSS.out _ ?_; (repeat (first | (with_reducible exact KC.out) | (with_reducible exact Keeps.refl _ _) | (with_reducible apply Keeps.drewN) | (with_reducible apply Keeps.drew) | (with_reducible apply Keeps.alloc))); done))
        (first
        | (go_at_call 28; (refine (HST.out _ (by repeat (first | (with_reducible exact KC.out) | (with_reducible exact Keeps.refl _ _) | (with_reducible apply Keeps.drewN) | (with_reducible apply Keeps.drew) | (with_reducible apply Keeps.alloc)))).mono ?_); rintro e wy0 ⟨rfl, hk⟩; have KC2 : Hd (Keeps (fun _ => False) V wy0) := hid (Keeps.trans (S := fun _ => False) (by repeat (first | (with_reducible exact KC.out) | (with_reducible exact Keeps.refl _ _) | (with_reducible apply Keeps.drewN) | (with_reducible apply Keeps.drew) | (with_reducible apply Keeps.alloc))) hk); replace KC := KC2; clear KC2; replace hk := hid hk)
        | (go_at_call 48; (refine (HMS.out _).mono ?_); rintro e wy1 ⟨am, cm, rfl, hk⟩; have KC2 : Hd (Keeps (fun _ => False) V wy1) := hid (Keeps.trans (S := fun _ => False) (by repeat (first | (with_reducible exact KC.out) | (with_reducible exact Keeps.refl _ _) | (with_reducible apply Keeps.drewN) | (with_reducible apply Keeps.drew) | (with_reducible apply Keeps.alloc))) hk); replace KC := KC2; clear KC2; replace hk := hid hk))
      all_goals
        go_wp2
        go_ret
        have kf : Keeps (fun _ => False) V _ := KC.out
        exact ⟨rfl, ⟨⟨⟨bs, a, ⟨k2, i2⟩⟩, ⟨(sn : Int), [], false, ⟨rk, ri⟩⟩, FSq, RP, GT⟩, HG3.out, HE3.out.trans HG3.out, HG2.out.b, ⟨_, _, _, _, _, _, _, _, _, _, HWR.out.keep kf (fun _ _ _ h => h)⟩⟩, HK.out.trans (kf.mono (fun _ _ h => h.elim))⟩
end Go.Proofs.YthoikljmokkchaaDoor
