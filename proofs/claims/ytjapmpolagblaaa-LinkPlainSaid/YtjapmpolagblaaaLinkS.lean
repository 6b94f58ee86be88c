/- Link: the windows' Check. -/
import Derived.Test.YtjapmpolagblaaaLinkR
namespace Go.Proofs.Ytjapmpolagblaaa
open Go.RowKit
attribute [local go_sem ↓] Go.wp_at_zero Go.wp_at_succ
theorem wins_at {K : Nat → Prop} {w : World} {a : Option Addr} {n c : Nat} {l : List Win} (h : Wins K w (.slice a n c) l) (k : Nat) (hk : k < l.length) : ∃ b o x, a = some ⟨b, o, none⟩ ∧ K b ∧ b < w.heap.size ∧ l[k]? = some x ∧
    ∀ w', Keeps (fun _ => False) w w' → (w'.cell? ⟨b, o + k * 6, none⟩ = some (.int .i64 x.k) ∧ w'.cell? ⟨b, o + k * 6 + 1, none⟩ = some (.int .i64 x.a) ∧ w'.cell? ⟨b, o + k * 6 + 2, none⟩ = some (.int .i64 x.b) ∧
    w'.cell? ⟨b, o + k * 6 + 3, none⟩ = some (.int .i64 x.f) ∧ w'.cell? ⟨b, o + k * 6 + 4, none⟩ = some (.int .i64 x.u) ∧ w'.cell? ⟨b, o + k * 6 + 5, none⟩ = some (.int .i64 x.r)) := by
  obtain ⟨a', cap, e, _, _, h4⟩ := h
  injection e with e1 e2 e3
  subst e1
  obtain ⟨b, o, x, g1, g2, g3, g4, c0, c1, c2, c3, c4, c5⟩ := h4 k hk
  exact ⟨b, o, x, g1, g2, g3, g4, fun w' hk => ⟨keep_cell hk (fun h => h) c0, keep_cell hk (fun h => h) c1, keep_cell hk (fun h => h) c2, keep_cell hk (fun h => h) c3, keep_cell hk (fun h => h) c4, keep_cell hk (fun h => h) c5⟩⟩
set_option maxRecDepth 100000 in set_option maxHeartbeats 1000000 in
theorem Check_any (K : Nat → Prop) (v : Value) (ws : List Win) (w : World) (hv : Wins K w v ws) (hm : ws.length ≤ 100) :
    Calls Try.prog 17 #[v] w fun e w' => SomeI w e w' := by
  have HV := hid hv
  obtain ⟨sa, cap, rfl, -, -, -⟩ := hv
  generalize hll : ws.length = m at *
  have HLL := hid hll; clear hll
  go_enter Try.func17, Try.ntmps17
  have m1 : ¬ (200 : Int) < m := by omega
  go_wp2_with fail
  go_loopw [3] (fun i wr => ∃ k : Nat, i = .int .i64 k ∧ k ≤ m ∧ Hd (Keeps (fun _ => False) w wr)) (fun i _ => m - (intOf i).toNat)
  case atStart => exact ⟨0, rfl, Nat.zero_le _, hid (Keeps.refl _ _)⟩
  case round =>
    obtain ⟨k, rfl, hk, KR⟩ := hrel
    by_cases hkm : k < m
    · obtain ⟨bb, o, x, ea, -, -, -, hcc⟩ := wins_at HV.out k (by rw [HLL.out]; exact hkm)
      obtain ⟨f0, f1, f2, f3, f4, f5⟩ := hcc wr KR.out
      subst ea
      have k1 : (k : Int) < m := by omega
      have k2 : (0 : Int) ≤ k := by omega
      clear hcc
      go_wp2_with fail
      refine (Formed_any x _).mono ?_
      rintro e w2 ⟨b, rfl, hk2⟩
      have K2 := hid (KR.out.trans hk2)
      clear hk2 f0 f1 f2 f3 f4 f5
      cases b
      · go_wp2
        go_ret
        exact ⟨_, rfl, K2.out⟩
      · go_wp2
        go_roundw
        case rel => exact ⟨k + 1, by go_num, by omega, K2⟩
        case measure => simp [intOf]; omega
    · have hkm2 : k = m := by omega
      subst hkm2
      have k0 : ¬ ((k : Int) < k) := by omega
      clear hkm
      go_wp2_with fail
      go_loopw [4] (fun i wr => ∃ j : Nat, i = .int .i64 j ∧ j ≤ k ∧ Hd (Keeps (fun _ => False) w wr)) (fun i _ => k - (intOf i).toNat)
      case atStart => exact ⟨0, rfl, Nat.zero_le _, KR⟩
      case round =>
        clear KR
        obtain ⟨j, rfl, hj, KR⟩ := hrel
        by_cases hjk : j < k
        · obtain ⟨bb, o, x, ea, -, -, -, hcc⟩ := wins_at HV.out j (by rw [HLL.out]; exact hjk)
          subst ea
          have HC : Hd (∀ w', Keeps (fun _ => False) wr w' → _) := hid (fun w' hk => hcc w' (KR.out.trans hk))
          have KC : Hd (Keeps (fun _ => False) wr wr) := hid (Keeps.refl _ _)
          have k1 : (j : Int) < k := by omega
          have k2 : (0 : Int) ≤ j := by omega
          clear hcc
          go_upto_region 11 with fail
          go_cut [40] from 27 to 40 (fun u wx => ∃ q, u = .bool q ∧ Hd (Keeps (fun _ => False) wr wx))
          case first =>
            by_cases hj0 : j = 0
            · subst hj0
              go_quiet (fail)
              go_wp2_with fail
              go_meet
              exact ⟨false, rfl, hid (by repeat (first | (with_reducible exact KC.out) | (with_reducible exact Keeps.refl _ _) | (with_reducible apply Keeps.drewN) | (with_reducible apply Keeps.drew) | (with_reducible apply Keeps.alloc)))⟩
            · obtain ⟨j', hj'⟩ : ∃ j', j = j' + 1 := ⟨j - 1, by omega⟩
              obtain ⟨bb', o', y, eb, -, -, -, hcd⟩ := wins_at HV.out j' (by rw [HLL.out]; omega)
              injection eb with eb; injection eb with eb1 eb2 eb3
              subst eb1 eb2
              have HC2 : Hd (∀ w', Keeps (fun _ => False) wr w' → _) := hid (fun w' hk => (⟨HC.out w' hk, hcd w' (KR.out.trans hk)⟩ : _ ∧ _))
              have u1 : IntKind.i64.wrap ((j : Int) - 1) = (j : Int) - 1 := IntWalk.i64_in _ (by omega)
              have u2 : (0 : Int) ≤ (j : Int) - 1 := by omega
              have u3 : decide (0 < j) = true := by simp; omega
              have u4 : 1 ≤ (j : Int) := by omega
              have u5 : (j : Int) - 1 < k := by omega
              have u6 : ((j : Int) - 1).toNat = j' := by omega
              have u7 : 1 ≤ j := by omega
              clear hj'
              clear hcd hj0
              go_region_held (fun w' => (w'.cell? ⟨bb, o + j * 6, none⟩ = some (.int .i64 x.k) ∧ w'.cell? ⟨bb, o + j * 6 + 1, none⟩ = some (.int .i64 x.a) ∧ w'.cell? ⟨bb, o + j * 6 + 2, none⟩ = some (.int .i64 x.b) ∧ w'.cell? ⟨bb, o + j * 6 + 3, none⟩ = some (.int .i64 x.f) ∧ w'.cell? ⟨bb, o + j * 6 + 4, none⟩ = some (.int .i64 x.u) ∧ w'.cell? ⟨bb, o + j * 6 + 5, none⟩ = some (.int .i64 x.r)) ∧ (w'.cell? ⟨bb, o + j' * 6, none⟩ = some (.int .i64 y.k) ∧ w'.cell? ⟨bb, o + j' * 6 + 1, none⟩ = some (.int .i64 y.a) ∧ w'.cell? ⟨bb, o + j' * 6 + 2, none⟩ = some (.int .i64 y.b) ∧ w'.cell? ⟨bb, o + j' * 6 + 3, none⟩ = some (.int .i64 y.f) ∧ w'.cell? ⟨bb, o + j' * 6 + 4, none⟩ = some (.int .i64 y.u) ∧ w'.cell? ⟨bb, o + j' * 6 + 5, none⟩ = some (.int .i64 y.r))) (exact HC2.out _ (by repeat (first | (with_reducible exact KC.out) | (with_reducible exact Keeps.refl _ _) | (with_reducible apply Keeps.drewN) | (with_reducible apply Keeps.drew) | (with_reducible apply Keeps.alloc) | (refine Keeps.setCell ?_ (.inr (by first | exact Nat.le_refl _ | (simp; done) | (simp; omega) | omega)) _))))
                ((go_at_call 32; refine (before_any x y _).mono ?_; rintro e wy ⟨rfl, hk2⟩; have KC2 : Hd (Keeps (fun _ => False) wr wy) := hid (Keeps.trans (S := fun _ => False) (by repeat (first | (with_reducible exact KC.out) | (with_reducible exact Keeps.refl _ _) | (with_reducible apply Keeps.drewN) | (with_reducible apply Keeps.drew) | (with_reducible apply Keeps.alloc))) hk2); replace KC := KC2; clear KC2 hk2))
              all_goals
                go_wp2_with fail
                go_meet
                exact ⟨_, rfl, hid (by repeat (first | (with_reducible exact KC.out) | (with_reducible exact Keeps.refl _ _) | (with_reducible apply Keeps.drewN) | (with_reducible apply Keeps.drew) | (with_reducible apply Keeps.alloc)))⟩
          case rest =>
            obtain ⟨q, rfl, KQ⟩ := hcut
            cases q
            · clear KC
              have KR2 := hid (KR.out.trans KQ.out)
              have HCQ : Hd (∀ w', Keeps (fun _ => False) wc w' → _) := hid (fun w' hk => HC.out w' (KQ.out.trans hk))
              go_wp2_with fail
              go_loopw [5] (fun i wx => ∃ p : Nat, i = .int .i64 p ∧ p ≤ j ∧ Hd (Keeps (fun _ => False) wc wx)) (fun i _ => j - (intOf i).toNat)
              case atStart => exact ⟨0, rfl, Nat.zero_le _, hid (Keeps.refl _ _)⟩
              case round =>
                obtain ⟨p, rfl, hp, KP⟩ := hrel
                by_cases hpj : p < j
                · obtain ⟨bb', o', y, eb, -, -, -, hcd⟩ := wins_at HV.out p (by rw [HLL.out]; omega)
                  injection eb with eb; injection eb with eb1 eb2 eb3
                  subst eb1 eb2
                  have HC2 : Hd (∀ w', Keeps (fun _ => False) wr w' → _) := hid (fun w' hk => (⟨HCQ.out w' (KP.out.trans hk), hcd w' ((KR2.out.trans KP.out).trans hk)⟩ : _ ∧ _))
                  have KC : Hd (Keeps (fun _ => False) wr wr) := hid (Keeps.refl _ _)
                  have k3 : (p : Int) < j := by omega
                  have k4 : (0 : Int) ≤ p := by omega
                  have k5 : (p : Int) < k := by omega
                  clear hcd
                  go_upto_region 16 with fail
                  go_region_held (fun w' => (w'.cell? ⟨bb, o + j * 6, none⟩ = some (.int .i64 x.k) ∧ w'.cell? ⟨bb, o + j * 6 + 1, none⟩ = some (.int .i64 x.a) ∧ w'.cell? ⟨bb, o + j * 6 + 2, none⟩ = some (.int .i64 x.b) ∧ w'.cell? ⟨bb, o + j * 6 + 3, none⟩ = some (.int .i64 x.f) ∧ w'.cell? ⟨bb, o + j * 6 + 4, none⟩ = some (.int .i64 x.u) ∧ w'.cell? ⟨bb, o + j * 6 + 5, none⟩ = some (.int .i64 x.r)) ∧ (w'.cell? ⟨bb, o + p * 6, none⟩ = some (.int .i64 y.k) ∧ w'.cell? ⟨bb, o + p * 6 + 1, none⟩ = some (.int .i64 y.a) ∧ w'.cell? ⟨bb, o + p * 6 + 2, none⟩ = some (.int .i64 y.b) ∧ w'.cell? ⟨bb, o + p * 6 + 3, none⟩ = some (.int .i64 y.f) ∧ w'.cell? ⟨bb, o + p * 6 + 4, none⟩ = some (.int .i64 y.u) ∧ w'.cell? ⟨bb, o + p * 6 + 5, none⟩ = some (.int .i64 y.r))) (exact HC2.out _ (by repeat (first | (with_reducible exact KC.out) | (with_reducible exact Keeps.refl _ _) | (with_reducible apply Keeps.drewN) | (with_reducible apply Keeps.drew) | (with_reducible apply Keeps.alloc) | (refine Keeps.setCell ?_ (.inr (by first | exact Nat.le_refl _ | (simp; done) | (simp; omega) | omega)) _))))
                    ((go_at_call 33; refine (meet_any x y _).mono ?_; rintro e wy ⟨rfl, hk2⟩; have KC2 : Hd (Keeps (fun _ => False) wr wy) := hid (Keeps.trans (S := fun _ => False) (by repeat (first | (with_reducible exact KC.out) | (with_reducible exact Keeps.refl _ _) | (with_reducible apply Keeps.drewN) | (with_reducible apply Keeps.drew) | (with_reducible apply Keeps.alloc))) hk2); replace KC := KC2; clear KC2 hk2))
                  all_goals
                    generalize meetB x y = q at *
                    cases q
                    · go_wp2
                      go_roundw
                      case rel => exact ⟨p + 1, by go_num, by omega, hid (KP.out.trans (S := fun _ => False) (by repeat (first | (with_reducible exact KC.out) | (with_reducible exact Keeps.refl _ _) | (with_reducible apply Keeps.drewN) | (with_reducible apply Keeps.drew) | (with_reducible apply Keeps.alloc))))⟩
                      case measure => simp [intOf]; omega
                    · go_wp2
                      go_ret
                      exact ⟨_, rfl, (KR2.out.trans KP.out).trans (S := fun _ => False) (by repeat (first | (with_reducible exact KC.out) | (with_reducible exact Keeps.refl _ _) | (with_reducible apply Keeps.drewN) | (with_reducible apply Keeps.drew) | (with_reducible apply Keeps.alloc)))⟩
                · have hpj2 : p = j := by omega
                  have k3 : ¬ ((p : Int) < j) := by omega
                  clear hpj hpj2
                  go_wp2
                  go_roundw
                  case rel => exact ⟨j + 1, by go_num, by omega, hid (KR2.out.trans KP.out)⟩
                  case measure => simp [intOf]; omega
            · go_wp2
              go_ret
              exact ⟨_, rfl, KR.out.trans KQ.out⟩
        · have hjk2 : j = k := by omega
          have k0 : ¬ ((j : Int) < k) := by omega
          clear hjk hjk2
          go_wp2
          go_ret
          exact ⟨_, rfl, KR.out⟩
end Go.Proofs.Ytjapmpolagblaaa
