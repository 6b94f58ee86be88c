/- The walk of the law ClockCivil. -/
import Derived.Test.YtjdalhnffhoknaaClockR
namespace Go.Proofs.Ytjdalhnffhoknaa
open Go.RowKit

set_option maxRecDepth 100000 in set_option maxHeartbeats 1000000 in
theorem civil_any (v : Value) (l : List Int) (tick civil : Int) (w : World) (hv : Sl (fun b => b < w.heap.size) w v (i64s l)) (hl : ∀ n ∈ l, -9223372036854775808 ≤ n ∧ n ≤ 9223372036854775807) (ht : i64ok tick) :
    Calls Try.prog 7 #[v, .int .i64 tick, .int .i64 civil] w fun e w' => e = .returned (.bool true) ∧ Keeps (fun _ => False) w w' := by
  have HV := hid hv; have HL := hid hl; have HT := hid ht
  obtain ⟨a, cap, rfl, hx⟩ := hv.ints
  clear hv hl ht hx
  generalize hll : l.length = ll at *
  clear hll
  go_enter Try.func7, Try.ntmps7
  go_wp2_with fail
  refine (Table_any _ _ l _ HV.out HL.out).mono ?_
  rintro e w1 ⟨a1, c1, rfl, ht, hk⟩
  have T1 := hid ht; have K1 := hid hk; clear ht hk
  have HI := hid (tabOf_inc l); have HO := hid (tabOf_offs l); have HA := hid (tabOf_ats l); have HN := hid (tabOf_len l)
  generalize tabOf l = tab at *
  generalize htl : tab.length = m at *
  have HTL := hid htl; clear htl
  obtain ⟨b0, b1⟩ := around_b tick 1000001 (by omega)
  go_wp2_with fail
  refine (Around_any _ _ _ HT.out.1 HT.out.2 (by omega) (by omega)).mono ?_
  rintro e w2 ⟨rfl, rfl⟩
  generalize around tick 1000001 = n at *
  have hlen : tab.length ≤ 1000000 := by rw [HTL.out]; have := HN.out; omega
  have HLEN := hid hlen; clear hlen
  go_wp2_with fail
  refine (Civil_any _ tab n _ _ (by rw [HTL.out] at *; exact T1.out) HI.out HO.out HLEN.out (by omega) (by omega)).mono ?_
  rintro e w2 ⟨rfl, hk⟩
  have K2 := hid (K1.out.trans hk); have T2 := hid (T1.out.keep hk (fun _ _ _ h => h)); clear hk
  have HM := hid (civ_mem HO.out b0 (show n ≤ 1000000 by omega))
  have HME := hid (fun (x : Int) (h : x ∈ tks tab (civ tab n)) => tks_mem h)
  have HSO := hid (tks_sorted tab (civ tab n))
  generalize hcv : civ tab n = c at *
  have HCV := hid hcv; clear hcv
  go_wp2_with fail
  refine (Ticks_any _ tab c _ _ T2.out HI.out HO.out HLEN.out (fun b hb _ => hb)).mono ?_
  rintro e w3 ⟨a3, n3, c3, rfl, hn3, ho3, hk⟩
  have K3 := hid (K2.out.trans hk); have T3 := hid (T2.out.keep hk (fun _ _ _ h => h)); have S3 := hid (row_sl ho3.row (by rw [i64s_length]; exact hn3.symm))
  have hn3' : n3 = (tks tab c).length := hn3
  have hb3 : n3 ≤ 1000001 := by rw [hn3']; unfold tks; split; simp; have := tksTo_len tab c (tab.length + 1); have := HLEN.out; omega
  have HN3 := hid hn3'
  clear hk ho3 hn3 hn3'
  generalize hgot : tks tab c = got at *
  have HG := hid hgot; clear hgot
  go_wp2_with fail
  refine (RCivil_any _ tab n _ _ T3.out HI.out HO.out HLEN.out (by omega) (by omega)).mono ?_
  rw [HCV.out]
  rintro e w4 ⟨rfl, rfl⟩
  go_wp2_with fail
  refine (Ticks_any _ tab civil _ _ T3.out HI.out HO.out HLEN.out (fun b hb _ => hb)).mono ?_
  rintro e w4 ⟨a4, n4, c4, rfl, hn4, ho4, hk⟩
  have K4 := hid (K3.out.trans hk); have T4 := hid (T3.out.keep hk (fun _ _ _ h => h)); have S4 := hid (S3.out.keep hk (fun _ _ _ h => h)); have U4 := hid (row_sl ho4.row (by rw [i64s_length]; exact hn4.symm))
  clear hk ho4 hn4
  go_wp2_with fail
  refine (RTicks_any _ tab civil _ _ T4.out HI.out HA.out HO.out HLEN.out).mono ?_
  rintro e w5 ⟨a5, n5, c5, rfl, hn5, ho5, hk⟩
  have K5 := hid (K4.out.trans hk); have T5 := hid (T4.out.keep hk (fun _ _ _ h => h)); have S5 := hid (S4.out.keep hk (fun _ _ _ h => h)); have U5 := hid (U4.out.keep hk (fun _ _ _ h => h)); have V5 := hid (row_sl ho5.row (by rw [i64s_length]; exact hn5.symm))
  have hln : (tks tab civil).length ≤ 1000000000 := by unfold tks; split; simp; have := tksTo_len tab civil (tab.length + 1); have := HLEN.out; omega
  have HLN := hid hln
  clear hk ho5 hn5 hln
  go_wp2_with fail
  refine (SameInts_any _ _ _ _ (tks tab civil) (tks tab civil) _ U5.out V5.out HLN.out).mono ?_
  rw [show decide (tks tab civil = tks tab civil) = true by simp]
  rintro e w6 ⟨rfl, hd⟩
  have K6 := hid (K5.out.trans (drawn_keeps _ hd)); have T6 := hid (T5.out.drawn hd); have S6 := hid (S5.out.drawn hd)
  clear hd
  go_wp2_with fail
  refine (Has_any _ _ got n _ S6.out (by have := HN3.out; omega) HM.out).mono ?_
  rintro e w7 ⟨rfl, rfl⟩
  go_wp2_with fail
  go_loopw [11] (fun i wr => ∃ k : Nat, k ≤ n3 ∧ i = .int .i64 k ∧ Hd (Keeps (fun _ => False) w6 wr)) (fun i _ => n3 - (intOf i).toNat)
  case atStart => exact ⟨0, by omega, rfl, hid (Keeps.refl _ _)⟩
  case round =>
    obtain ⟨k, hk, rfl, hkeep⟩ := hrel
    by_cases hlt : k < n3
    · skip
      have TR := hid (T6.out.keep hkeep.out (fun _ _ _ h => h))
      have HC : Hd (∀ y : Ext wr, Calls Try.prog 29 #[.slice a1 m c1, .int .i64 (got.getD k 0)] y.w fun e w' => e = .returned (.int .i64 c) ∧ Keeps (fun _ => False) y.w w') := hid (fun y => by
        have hk3 : k < got.length := by have := HN3.out; omega
        have hmem : got.getD k 0 ∈ got := by simp only [List.getD, List.getElem?_eq_getElem hk3]; exact List.getElem_mem hk3
        have hme := HME.out _ hmem
        have := Civil_any (.slice a1 m c1) tab (got.getD k 0) y.w _ (by have := TR.out.keep y.k (fun _ _ _ h => h); rw [HTL.out] at *; exact this) HI.out HO.out HLEN.out (by omega) (by omega)
        rw [hme.1] at this
        exact this)
      obtain ⟨a', cap', hva, q9, q8, hx⟩ := (S6.out.keep hkeep.out (fun _ _ _ h => h)).ints
      rw [← HN3.out] at hva hx
      injection hva with hva1 hva2 hva3
      obtain ⟨b, o, hb, q7, q6, hcell⟩ := hx (by omega)
      subst hb
      subst hva1
      have f0 : ∀ y : Ext wr, y.w.cell? ⟨b, o + k, none⟩ = some (.int .i64 (got.getD k 0)) := ext_cell (hcell k hlt)
      have hk1 : (k : Int) < n3 := by omega
      have hk2 : (0 : Int) ≤ (k : Int) := by omega
      by_cases h0 : k = 0
      · subst h0
        have f0' : ∀ y : Ext wr, y.w.cell? ⟨b, o, none⟩ = some (.int .i64 (got.getD 0 0)) := fun y => by simpa using f0 y
        clear hx hcell hva2 hva3 q9 q8 q7 q6 f0
        generalize got.getD 0 0 = x at *
        go_wp2_with fail
        refine wp_region_ext (by kernel_rfl) (by kernel_rfl) ?_
        repeat (go_big_quiet_step (first | (go_at_call 29; exact ext_call (HC.out _))))
        refine wpQuiet_nil ?_
        rintro _ ⟨y, rfl⟩
        go_wp2
        go_roundw
        case rel => exact ⟨0 + 1, by omega, by go_num, hid (hkeep.out.trans y.k)⟩
        case measure => first | (simp [intOf]; done) | (simp [intOf]; omega)
      · obtain ⟨j, rfl⟩ : ∃ j, k = j + 1 := ⟨k - 1, by omega⟩
        have f1 : ∀ y : Ext wr, y.w.cell? ⟨b, o + j, none⟩ = some (.int .i64 (got.getD j 0)) := ext_cell (hcell j (by omega))
        have hlt2 : got.getD j 0 < got.getD (j + 1) 0 := by
          have h1 : j < got.length := by have := HN3.out; omega
          have h2 : j + 1 < got.length := by have := HN3.out; omega
          have := List.pairwise_iff_getElem.1 HSO.out j (j + 1) h1 h2 (by omega)
          simp only [List.getD, List.getElem?_eq_getElem h1, List.getElem?_eq_getElem h2, Option.getD_some]; exact this
        clear hx hcell hva2 hva3 q9 q8 q7 q6
        generalize got.getD (j + 1) 0 = x at *
        generalize got.getD j 0 = z at *
        have t0 : decide (x ≤ z) = false := by simp; omega
        have e1 : ((j + 1 : Nat) : Int) - 1 = j := by omega
        have e2 : ((j : Int) + 1) - 1 = j := by omega
        have e3 : (j : Int) + 1 < n3 := by omega
        have e4 : (0 : Int) ≤ (j : Int) + 1 := by omega
        have e5 : (j : Int) < n3 := by omega
        have e6 : decide (0 < (j : Int) + 1) = true := decide_eq_true (by omega)
        have w0 : IntKind.i64.wrap ((j : Int) + 1 - 1) = j := by rw [e2]; exact IntWalk.i64_in _ (by omega)
        go_wp2_with fail
        refine wp_region_ext (by kernel_rfl) (by kernel_rfl) ?_
        repeat (go_big_quiet_step (first | (go_at_call 29; exact ext_call (HC.out _))))
        refine wpQuiet_nil ?_
        rintro _ ⟨y, rfl⟩
        go_wp2
        go_roundw
        case rel => exact ⟨j + 1 + 1, by omega, by go_num, hid (hkeep.out.trans y.k)⟩
        case measure => first | (simp [intOf]; done) | (simp [intOf]; omega)
    · go_wp2_with fail
      refine (lives_any _).mono ?_
      rintro e w8 ⟨rfl, hk⟩
      have K8 := hid ((K6.out.trans hkeep.out).trans hk); clear hk
      go_wp2
      go_ret
      exact ⟨rfl, K8.out⟩
end Go.Proofs.Ytjdalhnffhoknaa
