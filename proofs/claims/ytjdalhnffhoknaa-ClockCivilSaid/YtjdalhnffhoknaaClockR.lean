/- The walk of the reference's Ticks. -/
import Derived.Test.YtjdalhnffhoknaaClockQ
namespace Go.Proofs.Ytjdalhnffhoknaa
open Go.RowKit

set_option maxRecDepth 100000 in set_option maxHeartbeats 1000000 in
theorem RTicks_any (v : Value) (l : List Lp) (c : Int) (w : World) (K : Nat → Prop) (ht : Tab K w v l) (hi : inc l) (ha : ats l) (ho : offs l) (hn : l.length ≤ 1000000) :
    Calls Try.prog 33 #[v, .int .i64 c] w fun e w' => NewInts w (tks l c) e w' := by
  have HT : Hd (Tab (fun b => b < w.heap.size) w v l) := hid (ht.mono (fun b h _ => h))
  have HI := hid hi; have HO := hid ho; have HA := hid ha
  obtain ⟨a, cap, rfl, hl, hc, hx0⟩ := ht.form
  obtain ⟨i0, hi0, hz0, hz1, hz2⟩ := info_parts infoInt
  unfold maxLen at hc
  clear ht hi ho ha hx0
  by_cases hr : c < -100 ∨ 1000100 < c
  · have HE : Hd (tks l c = []) := hid (by unfold tks; rw [if_pos hr])
    rcases hr with h | h
    all_goals
      go_enter Try.func33, Try.ntmps33
      go_wp2
      go_ret
      exact ⟨none, 0, 0, rfl, by rw [HE.out]; rfl, by rw [HE.out]; exact Own.nil _ _ _ _, Keeps.refl _ _⟩
  · have HE : Hd (tks l c = tksTo l c (l.length + 1)) := hid (by unfold tks; rw [if_neg hr])
    have r1 : -100 ≤ c := by omega
    have r2 : c ≤ 1000100 := by omega
    clear hr
    generalize hll : l.length = n at *
    have HL := hid hll; clear hll
    go_enter Try.func33, Try.ntmps33
    go_wp2_with fail
    go_loopw [5, 6] (fun s i wr => ∃ (k : Nat) (a5 : Option Addr) (m5 c5 : Nat), i = .int .i64 k ∧ s = .slice a5 m5 c5 ∧ k ≤ n + 1 ∧ m5 ≤ k ∧ Hd (m5 = (tksTo l c k).length) ∧ Hd (Own (fun b => w.heap.size ≤ b) wr 3 1 (.slice a5 m5 c5) m5 (i64s (tksTo l c k))) ∧ Hd (Keeps (fun _ => False) w wr)) (fun _ i _ => n + 1 - (intOf i).toNat)
    case atStart => exact ⟨0, none, 0, 0, rfl, rfl, by omega, by omega, hid rfl, hid (Own.nil _ _ _ _), hid (Keeps.refl _ _)⟩
    case round =>
      obtain ⟨k, a5, m5, c5, rfl, rfl, hk, hm5, hml, hown, hkeep⟩ := hrel
      by_cases hlt : k < n + 1
      · have HTR := hid (HT.out.keep hkeep.out (fun _ _ _ h => h))
        have HIF := hid (rtk_iff HI.out HA.out (i := k) (by rw [HL.out]; omega) (tk l c k))
        by_cases h0 : k = 0
        · subst h0
          have HX : Hd (tk l c 0 = c) := hid (by simp [tk])
          have HFR : Hd (rfrom l 0 = 0) := hid rfl
          by_cases hkn : 0 < n
          · skip
            have hkl : 0 < l.length := by rw [HL.out]; omega
            have HUN : Hd (runtil l (0) = l[0].at_) := hid (by unfold runtil; rw [if_pos hkl]; simp [List.getD, hkl])
            obtain ⟨a', cap', hva, q9, q8, hx⟩ := HTR.out.form
            rw [HL.out] at hva
            injection hva with hva1 hva2 hva3
            obtain ⟨b, o, hb, q7, q6, hx2⟩ := hx (by omega)
            subst hb
            subst hva1
            obtain ⟨d0, d1⟩ := hx2 (0) hkl
            clear hx hx2 HTR hva2 hva3 q9 q8 q7 q6 d1
            generalize l[0].at_ = x at *
            have d0' : wr.cell? ⟨b, o, none⟩ = some (.int .i64 x) := by simpa using d0
            clear d0 hkl
            rw [HX.out, HFR.out, HUN.out] at HIF
            by_cases g1 : 0 ≤ c
            · by_cases g2 : c < x
              · have HN : Hd (tksTo l c (0 + 1) = tksTo l c (0) ++ [c]) := hid (by have := tksTo_yes (l := l) (c := c) (k := 0) (by rw [HX.out]; exact HIF.out.2 ⟨g1, g2⟩); rw [HX.out] at this; exact this)
                have zy := hkeep.out.size
                go_wp2_with (at_builtin; refine wpList_append_row rfl _ _ 42 rfl 3 i0 (.int .i64 0) 1 8 Try.underlying42 hi0 hz0 hz1 hz2 rfl (by decide) _ (fun _ => True) _ _ _ _ rfl (hown.out.alloc _) 1 _ rfl (src_one _ _ trivial) (by intro u hu; simp at hu; subst hu; rfl) ?h1 ?h2 ?_)
                case h1 => simp [maxLen]; omega
                case h2 => omega
                intro a1 cap1 w2 hown' hgrow; try intro _
                have H5 := hid hown'
                have HK5 : Hd (Keeps (fun b => w.heap.size ≤ b) wr w2) := hid ((keeps_alloc _ wr _).trans hgrow)
                clear hown' hgrow
                go_wp2
                go_roundw
                case rel =>
                  refine ⟨0 + 1, a1, m5 + 1, cap1, by go_num, rfl, by omega, by omega, hid (by rw [HN.out]; simp [hml.out]), hid ?_, hid (hkeep.out.after HK5.out)⟩
                  have := H5.out.mono (K' := fun b => w.heap.size ≤ b) (fun b _ hb => by rcases hb with hb | hb <;> omega)
                  rw [HN.out, i64s_append]; exact this
                case measure => first | (simp [intOf]; done) | (simp [intOf]; omega)
              · skip
                have HN : Hd (tksTo l c (0 + 1) = tksTo l c (0)) := hid (tksTo_no (by rw [HX.out]; intro h; have := HIF.out.1 h; omega))
                go_wp2
                go_roundw
                case rel => exact ⟨0 + 1, a5, m5, c5, by go_num, rfl, by omega, by omega, hid (by rw [HN.out]; exact hml.out), hid (by rw [HN.out]; exact hown.out), hkeep⟩
                case measure => first | (simp [intOf]; done) | (simp [intOf]; omega)
            · skip
              have HN : Hd (tksTo l c (0 + 1) = tksTo l c (0)) := hid (tksTo_no (by rw [HX.out]; intro h; have := HIF.out.1 h; omega))
              go_wp2
              go_roundw
              case rel => exact ⟨0 + 1, a5, m5, c5, by go_num, rfl, by omega, by omega, hid (by rw [HN.out]; exact hml.out), hid (by rw [HN.out]; exact hown.out), hkeep⟩
              case measure => first | (simp [intOf]; done) | (simp [intOf]; omega)
          · skip
            have HUN : Hd (runtil l (0) = 1000001) := hid (by unfold runtil; rw [if_neg (by rw [HL.out]; omega)])
            rw [HX.out, HFR.out, HUN.out] at HIF
            by_cases g1 : 0 ≤ c
            · by_cases g2 : c < 1000001
              · have HN : Hd (tksTo l c (0 + 1) = tksTo l c (0) ++ [c]) := hid (by have := tksTo_yes (l := l) (c := c) (k := 0) (by rw [HX.out]; exact HIF.out.2 ⟨g1, g2⟩); rw [HX.out] at this; exact this)
                have zy := hkeep.out.size
                go_wp2_with (at_builtin; refine wpList_append_row rfl _ _ 42 rfl 3 i0 (.int .i64 0) 1 8 Try.underlying42 hi0 hz0 hz1 hz2 rfl (by decide) _ (fun _ => True) _ _ _ _ rfl (hown.out.alloc _) 1 _ rfl (src_one _ _ trivial) (by intro u hu; simp at hu; subst hu; rfl) ?h1 ?h2 ?_)
                case h1 => simp [maxLen]; omega
                case h2 => omega
                intro a1 cap1 w2 hown' hgrow; try intro _
                have H5 := hid hown'
                have HK5 : Hd (Keeps (fun b => w.heap.size ≤ b) wr w2) := hid ((keeps_alloc _ wr _).trans hgrow)
                clear hown' hgrow
                go_wp2
                go_roundw
                case rel =>
                  refine ⟨0 + 1, a1, m5 + 1, cap1, by go_num, rfl, by omega, by omega, hid (by rw [HN.out]; simp [hml.out]), hid ?_, hid (hkeep.out.after HK5.out)⟩
                  have := H5.out.mono (K' := fun b => w.heap.size ≤ b) (fun b _ hb => by rcases hb with hb | hb <;> omega)
                  rw [HN.out, i64s_append]; exact this
                case measure => first | (simp [intOf]; done) | (simp [intOf]; omega)
              · skip
                have HN : Hd (tksTo l c (0 + 1) = tksTo l c (0)) := hid (tksTo_no (by rw [HX.out]; intro h; have := HIF.out.1 h; omega))
                go_wp2
                go_roundw
                case rel => exact ⟨0 + 1, a5, m5, c5, by go_num, rfl, by omega, by omega, hid (by rw [HN.out]; exact hml.out), hid (by rw [HN.out]; exact hown.out), hkeep⟩
                case measure => first | (simp [intOf]; done) | (simp [intOf]; omega)
            · skip
              have HN : Hd (tksTo l c (0 + 1) = tksTo l c (0)) := hid (tksTo_no (by rw [HX.out]; intro h; have := HIF.out.1 h; omega))
              go_wp2
              go_roundw
              case rel => exact ⟨0 + 1, a5, m5, c5, by go_num, rfl, by omega, by omega, hid (by rw [HN.out]; exact hml.out), hid (by rw [HN.out]; exact hown.out), hkeep⟩
              case measure => first | (simp [intOf]; done) | (simp [intOf]; omega)
        · obtain ⟨j, rfl⟩ : ∃ j, k = j + 1 := ⟨k - 1, by omega⟩
          have hjn : j < l.length := by rw [HL.out]; omega
          obtain ⟨a', cap', hva, q9, q8, hx⟩ := HTR.out.form
          rw [HL.out] at hva
          injection hva with hva1 hva2 hva3
          obtain ⟨b, o, hb, q7, q6, hx2⟩ := hx (by omega)
          subst hb
          subst hva1
          obtain ⟨c0, c1⟩ := hx2 j hjn
          obtain ⟨o1, o2⟩ := off_at HO.out hjn
          have HX : Hd (tk l c (j + 1) = c - l[j].off) := hid (by simp [tk, List.getD, hjn])
          have HFR : Hd (rfrom l (j + 1) = l[j].at_) := hid (by unfold rfrom; simp [List.getD, hjn])
          have hj1 : (j : Int) < n := by have := HL.out; omega
          have hj2 : (0 : Int) ≤ (j : Int) := by omega
          have e1 : ((j + 1 : Nat) : Int) - 1 = j := by omega
          have e2 : ((j : Int) + 1) - 1 = j := by omega
          by_cases hkn : j + 1 < n
          · skip
            have hkl : j + 1 < l.length := by rw [HL.out]; omega
            have HUN : Hd (runtil l (j + 1) = l[j + 1].at_) := hid (by unfold runtil; rw [if_pos hkl]; simp [List.getD, hkl])
            obtain ⟨d0, d1⟩ := hx2 (j + 1) hkl
            clear hx hx2 HTR hva2 hva3 q9 q8 q7 q6 d1
            generalize l[j + 1].at_ = x at *
            generalize l[j].at_ = y at *
            generalize l[j].off = z at *
            clear hkl hjn
            have hk3 : (j : Int) + 1 < n := by omega
            rw [HX.out, HFR.out, HUN.out] at HIF
            by_cases g1 : y ≤ c - z
            · by_cases g2 : c - z < x
              · have HN : Hd (tksTo l c (j + 1 + 1) = tksTo l c (j + 1) ++ [c - z]) := hid (by have := tksTo_yes (l := l) (c := c) (k := j + 1) (by rw [HX.out]; exact HIF.out.2 ⟨g1, g2⟩); rw [HX.out] at this; exact this)
                have zy := hkeep.out.size
                go_wp2_with (at_builtin; refine wpList_append_row rfl _ _ 42 rfl 3 i0 (.int .i64 0) 1 8 Try.underlying42 hi0 hz0 hz1 hz2 rfl (by decide) _ (fun _ => True) _ _ _ _ rfl (hown.out.alloc _) 1 _ rfl (src_one _ _ trivial) (by intro u hu; simp at hu; subst hu; rfl) ?h1 ?h2 ?_)
                case h1 => simp [maxLen]; omega
                case h2 => omega
                intro a1 cap1 w2 hown' hgrow; try intro _
                have H5 := hid hown'
                have HK5 : Hd (Keeps (fun b => w.heap.size ≤ b) wr w2) := hid ((keeps_alloc _ wr _).trans hgrow)
                clear hown' hgrow
                go_wp2
                go_roundw
                case rel =>
                  refine ⟨j + 1 + 1, a1, m5 + 1, cap1, by go_num, rfl, by omega, by omega, hid (by rw [HN.out]; simp [hml.out]), hid ?_, hid (hkeep.out.after HK5.out)⟩
                  have := H5.out.mono (K' := fun b => w.heap.size ≤ b) (fun b _ hb => by rcases hb with hb | hb <;> omega)
                  rw [HN.out, i64s_append]; exact this
                case measure => first | (simp [intOf]; done) | (simp [intOf]; omega)
              · skip
                have HN : Hd (tksTo l c (j + 1 + 1) = tksTo l c (j + 1)) := hid (tksTo_no (by rw [HX.out]; intro h; have := HIF.out.1 h; omega))
                go_wp2
                go_roundw
                case rel => exact ⟨j + 1 + 1, a5, m5, c5, by go_num, rfl, by omega, by omega, hid (by rw [HN.out]; exact hml.out), hid (by rw [HN.out]; exact hown.out), hkeep⟩
                case measure => first | (simp [intOf]; done) | (simp [intOf]; omega)
            · skip
              have HN : Hd (tksTo l c (j + 1 + 1) = tksTo l c (j + 1)) := hid (tksTo_no (by rw [HX.out]; intro h; have := HIF.out.1 h; omega))
              go_wp2
              go_roundw
              case rel => exact ⟨j + 1 + 1, a5, m5, c5, by go_num, rfl, by omega, by omega, hid (by rw [HN.out]; exact hml.out), hid (by rw [HN.out]; exact hown.out), hkeep⟩
              case measure => first | (simp [intOf]; done) | (simp [intOf]; omega)
          · skip
            have HUN : Hd (runtil l (j + 1) = 1000001) := hid (by unfold runtil; rw [if_neg (by rw [HL.out]; omega)])
            clear hx hx2 HTR hva2 hva3 q9 q8 q7 q6
            generalize l[j].at_ = y at *
            generalize l[j].off = z at *
            clear hjn
            rw [HX.out, HFR.out, HUN.out] at HIF
            by_cases g1 : y ≤ c - z
            · by_cases g2 : c - z < 1000001
              · have HN : Hd (tksTo l c (j + 1 + 1) = tksTo l c (j + 1) ++ [c - z]) := hid (by have := tksTo_yes (l := l) (c := c) (k := j + 1) (by rw [HX.out]; exact HIF.out.2 ⟨g1, g2⟩); rw [HX.out] at this; exact this)
                have zy := hkeep.out.size
                go_wp2_with (at_builtin; refine wpList_append_row rfl _ _ 42 rfl 3 i0 (.int .i64 0) 1 8 Try.underlying42 hi0 hz0 hz1 hz2 rfl (by decide) _ (fun _ => True) _ _ _ _ rfl (hown.out.alloc _) 1 _ rfl (src_one _ _ trivial) (by intro u hu; simp at hu; subst hu; rfl) ?h1 ?h2 ?_)
                case h1 => simp [maxLen]; omega
                case h2 => omega
                intro a1 cap1 w2 hown' hgrow; try intro _
                have H5 := hid hown'
                have HK5 : Hd (Keeps (fun b => w.heap.size ≤ b) wr w2) := hid ((keeps_alloc _ wr _).trans hgrow)
                clear hown' hgrow
                go_wp2
                go_roundw
                case rel =>
                  refine ⟨j + 1 + 1, a1, m5 + 1, cap1, by go_num, rfl, by omega, by omega, hid (by rw [HN.out]; simp [hml.out]), hid ?_, hid (hkeep.out.after HK5.out)⟩
                  have := H5.out.mono (K' := fun b => w.heap.size ≤ b) (fun b _ hb => by rcases hb with hb | hb <;> omega)
                  rw [HN.out, i64s_append]; exact this
                case measure => first | (simp [intOf]; done) | (simp [intOf]; omega)
              · skip
                have HN : Hd (tksTo l c (j + 1 + 1) = tksTo l c (j + 1)) := hid (tksTo_no (by rw [HX.out]; intro h; have := HIF.out.1 h; omega))
                go_wp2
                go_roundw
                case rel => exact ⟨j + 1 + 1, a5, m5, c5, by go_num, rfl, by omega, by omega, hid (by rw [HN.out]; exact hml.out), hid (by rw [HN.out]; exact hown.out), hkeep⟩
                case measure => first | (simp [intOf]; done) | (simp [intOf]; omega)
            · skip
              have HN : Hd (tksTo l c (j + 1 + 1) = tksTo l c (j + 1)) := hid (tksTo_no (by rw [HX.out]; intro h; have := HIF.out.1 h; omega))
              go_wp2
              go_roundw
              case rel => exact ⟨j + 1 + 1, a5, m5, c5, by go_num, rfl, by omega, by omega, hid (by rw [HN.out]; exact hml.out), hid (by rw [HN.out]; exact hown.out), hkeep⟩
              case measure => first | (simp [intOf]; done) | (simp [intOf]; omega)
      · have hkk : k = n + 1 := by omega
        go_wp2
        go_ret
        refine ⟨a5, m5, c5, rfl, ?_, ?_, hkeep.out⟩
        · rw [HE.out, hml.out, hkk]
        · rw [HE.out, ← hkk]; exact hown.out
end Go.Proofs.Ytjdalhnffhoknaa
