/- The walks of Ticks and CheckLeaps. -/
import Derived.Test.YtjdalhnffhoknaaClockF
namespace Go.Proofs.Ytjdalhnffhoknaa
open Go.RowKit

theorem infoInt : (Try.prog.info? 3).map (fun i => (i.zero, i.size, i.bytes)) = some (some (.int .i64 0), 1, 8) := by kernel_rfl
def tk (l : List Lp) (c : Int) (i : Nat) : Int := if i = 0 then c else c - (l.getD (i - 1) ⟨0, 0⟩).off
def tkOk (l : List Lp) (c : Int) (i : Nat) : Bool := decide (0 ≤ tk l c i ∧ tk l c i ≤ 1000000 ∧ ah l (tk l c i) = i)
def tksTo (l : List Lp) (c : Int) (n : Nat) : List Int := ((List.range n).filter (tkOk l c)).map (tk l c)
def tks (l : List Lp) (c : Int) : List Int := if c < -100 ∨ 1000100 < c then [] else tksTo l c (l.length + 1)
theorem tksTo_len (l : List Lp) (c : Int) (n : Nat) : (tksTo l c n).length ≤ n := by
  unfold tksTo
  rw [List.length_map]
  have := List.length_filter_le (tkOk l c) (List.range n)
  simpa using this
theorem tksTo_yes {l : List Lp} {c : Int} {k : Nat} (h : 0 ≤ tk l c k ∧ tk l c k ≤ 1000000 ∧ ah l (tk l c k) = k) : tksTo l c (k + 1) = tksTo l c k ++ [tk l c k] := by
  have : tkOk l c k = true := decide_eq_true h
  unfold tksTo; rw [List.range_succ, List.filter_append, List.map_append]; simp [List.filter_cons, this]
theorem tksTo_no {l : List Lp} {c : Int} {k : Nat} (h : ¬ (0 ≤ tk l c k ∧ tk l c k ≤ 1000000 ∧ ah l (tk l c k) = k)) : tksTo l c (k + 1) = tksTo l c k := by
  have : tkOk l c k = false := decide_eq_false h
  unfold tksTo; rw [List.range_succ, List.filter_append, List.map_append]; simp [List.filter_cons, this]
def NewInts (w : World) (xs : List Int) (r : Ending) (w' : World) : Prop := ∃ a n c, r = .returned (.slice a n c) ∧ n = xs.length ∧ Own (fun k => w.heap.size ≤ k) w' 3 1 (.slice a n c) n (i64s xs) ∧ Keeps (fun _ => False) w w'
set_option maxRecDepth 100000 in set_option maxHeartbeats 1000000 in
theorem Ticks_any (v : Value) (l : List Lp) (c : Int) (w : World) (K : Nat → Prop) (ht : Tab K w v l) (hi : inc l) (ho : offs l) (hn : l.length ≤ 1000000) (hK : ∀ b, b < w.heap.size → K b → b < w.heap.size) :
    Calls Try.prog 30 #[v, .int .i64 c] w fun e w' => NewInts w (tks l c) e w' := by
  have HT : Hd (Tab (fun b => b < w.heap.size) w v l) := hid (ht.mono (fun b h _ => h))
  have HI := hid hi; have HO := hid ho
  obtain ⟨a, cap, rfl, hl, hc, hx0⟩ := ht.form
  obtain ⟨i0, hi0, hz0, hz1, hz2⟩ := info_parts infoInt
  unfold maxLen at hc
  clear ht hi ho hx0
  by_cases hr : c < -100 ∨ 1000100 < c
  · have HE : Hd (tks l c = []) := hid (by unfold tks; rw [if_pos hr])
    rcases hr with h | h
    all_goals
      go_enter Try.func30, Try.ntmps30
      go_wp2
      go_ret
      exact ⟨none, 0, 0, rfl, by rw [HE.out]; rfl, by rw [HE.out]; exact Own.nil _ _ _ _, Keeps.refl _ _⟩
  · have HE : Hd (tks l c = tksTo l c (l.length + 1)) := hid (by unfold tks; rw [if_neg hr])
    have r1 : -100 ≤ c := by omega
    have r2 : c ≤ 1000100 := by omega
    clear hr
    generalize hll : l.length = n at *
    have HL := hid hll; clear hll
    go_enter Try.func30, Try.ntmps30
    go_wp2_with fail
    go_loopw [5, 17] (fun s i wr => ∃ (k : Nat) (a5 : Option Addr) (m5 c5 : Nat), i = .int .i64 k ∧ s = .slice a5 m5 c5 ∧ k ≤ n + 1 ∧ m5 ≤ k ∧ Hd (m5 = (tksTo l c k).length) ∧ Hd (Own (fun b => w.heap.size ≤ b) wr 3 1 (.slice a5 m5 c5) m5 (i64s (tksTo l c k))) ∧ Hd (Keeps (fun _ => False) w wr)) (fun _ i _ => n + 1 - (intOf i).toNat)
    case atStart => exact ⟨0, none, 0, 0, rfl, rfl, by omega, by omega, hid rfl, hid (Own.nil _ _ _ _), hid (Keeps.refl _ _)⟩
    case round =>
      obtain ⟨k, a5, m5, c5, rfl, rfl, hk, hm5, hml, hown, hkeep⟩ := hrel
      have hle := ah_le l (tk l c k)
      rw [HL.out] at hle
      by_cases hlt : k < n + 1
      · by_cases h0 : k = 0
        · subst h0
          have HX : Hd (tk l c 0 = c) := hid (by simp [tk])
          rw [HX.out] at hle
          by_cases q1 : 0 ≤ c
          · by_cases q2 : c ≤ 1000000
            · by_cases q3 : ah l (c) = 0
              · have HN : Hd (tksTo l c (0 + 1) = tksTo l c 0 ++ [c]) := hid (by have := tksTo_yes (l := l) (c := c) (k := 0) (by rw [HX.out]; exact ⟨q1, q2, q3⟩); rw [HX.out] at this; exact this)
                have Q3 := hid q3; clear q3
                go_wp2_with fail
                refine (ahead_any _ l _ _ _ (HT.out.keep hkeep.out (fun _ _ _ h => h)) HI.out (by rw [HL.out]; exact hn)).mono ?_
                rintro e w1 ⟨rfl, hk1⟩
                rw [Q3.out]
                have KX := hid (hkeep.out.trans hk1); have OX := hid (hown.out.keep hk1 (fun _ _ _ h => h)); have zx := hk1.size; have zy := hkeep.out.size
                clear hk1
                go_wp2_with (at_builtin; refine wpList_append_row rfl _ _ 42 rfl 3 i0 (.int .i64 0) 1 8 Try.underlying42 hi0 hz0 hz1 hz2 rfl (by decide) _ (fun _ => True) _ _ _ _ rfl (OX.out.alloc _) 1 _ rfl (src_one _ _ trivial) (by intro u hu; simp at hu; subst hu; rfl) ?h1 ?h2 ?_)
                case h1 => simp [maxLen]; omega
                case h2 => omega
                intro a1 cap1 w2 hown' hgrow; try intro _
                have H5 := hid hown'
                have HK5 : Hd (Keeps (fun b => w.heap.size ≤ b) w1 w2) := hid ((keeps_alloc _ w1 _).trans hgrow)
                clear hown' hgrow
                go_wp2
                go_roundw
                case rel =>
                  refine ⟨0 + 1, a1, m5 + 1, cap1, by go_num, rfl, by omega, by omega, hid (by rw [HN.out]; simp [hml.out]), hid ?_, hid (KX.out.after HK5.out)⟩
                  have := H5.out.mono (K' := fun b => w.heap.size ≤ b) (fun b _ hb => by rcases hb with hb | hb <;> omega)
                  rw [HN.out, i64s_append]; exact this
                case measure => first | (simp [intOf]; done) | (simp [intOf]; omega)
              · have HN : Hd (tksTo l c (0 + 1) = tksTo l c 0) := hid (tksTo_no (by rw [HX.out]; intro h; exact q3 h.2.2))
                have Q3 : (((ah l (c) : Nat) : Int) == 0) = false := by simp; omega
                clear q3
                go_wp2_with fail
                refine (ahead_any _ l _ _ _ (HT.out.keep hkeep.out (fun _ _ _ h => h)) HI.out (by rw [HL.out]; exact hn)).mono ?_
                rintro e w1 ⟨rfl, hk1⟩
                have KX := hid (hkeep.out.trans hk1); have OX := hid (hown.out.keep hk1 (fun _ _ _ h => h))
                clear hk1 hown
                go_wp2
                go_roundw
                case rel => exact ⟨0 + 1, a5, m5, c5, by go_num, rfl, by omega, by omega, hid (by rw [HN.out]; exact hml.out), hid (by rw [HN.out]; exact OX.out), KX⟩
                case measure => first | (simp [intOf]; done) | (simp [intOf]; omega)
            · have HN : Hd (tksTo l c (0 + 1) = tksTo l c 0) := hid (tksTo_no (by rw [HX.out]; intro h; exact q2 h.2.1))
              have KX := hkeep
              go_wp2
              go_roundw
              case rel => exact ⟨0 + 1, a5, m5, c5, by go_num, rfl, by omega, by omega, hid (by rw [HN.out]; exact hml.out), hid (by rw [HN.out]; exact hown.out), KX⟩
              case measure => first | (simp [intOf]; done) | (simp [intOf]; omega)
          · have HN : Hd (tksTo l c (0 + 1) = tksTo l c 0) := hid (tksTo_no (by rw [HX.out]; intro h; exact q1 h.1))
            have KX := hkeep
            go_wp2
            go_roundw
            case rel => exact ⟨0 + 1, a5, m5, c5, by go_num, rfl, by omega, by omega, hid (by rw [HN.out]; exact hml.out), hid (by rw [HN.out]; exact hown.out), KX⟩
            case measure => first | (simp [intOf]; done) | (simp [intOf]; omega)
        · obtain ⟨j, rfl⟩ : ∃ j, k = j + 1 := ⟨k - 1, by omega⟩
          have hjn : j < l.length := by rw [HL.out]; omega
          have HTR := HT.out.keep hkeep.out (fun _ _ _ h => h)
          obtain ⟨a', cap', hva, _, _, hx⟩ := HTR.form
          rw [HL.out] at hva
          injection hva with hva1 hva2 hva3
          obtain ⟨b, o, hb, _, _, hx2⟩ := hx (by omega)
          subst hb
          subst hva1
          obtain ⟨c9, c1⟩ := hx2 j hjn
          obtain ⟨o1, o2⟩ := off_at HO.out hjn
          have HX : Hd (tk l c (j + 1) = c - l[j].off) := hid (by simp [tk, List.getD, hjn])
          clear hx hx2 HTR hva2 hva3 c9
          rw [HX.out] at hle
          generalize l[j].off = z at *
          have hj1 : (j : Int) < n := by have := HL.out; omega
          have hj2 : (0 : Int) ≤ (j : Int) := by omega
          have e1 : ((j + 1 : Nat) : Int) - 1 = j := by omega
          have e2 : ((j : Int) + 1) - 1 = j := by omega
          clear hjn
          by_cases q1 : 0 ≤ c - z
          · by_cases q2 : c - z ≤ 1000000
            · by_cases q3 : ah l (c - z) = (j + 1)
              · have HN : Hd (tksTo l c ((j + 1) + 1) = tksTo l c (j + 1) ++ [c - z]) := hid (by have := tksTo_yes (l := l) (c := c) (k := (j + 1)) (by rw [HX.out]; exact ⟨q1, q2, q3⟩); rw [HX.out] at this; exact this)
                have Q3 := hid q3; clear q3
                go_wp2_with fail
                refine (ahead_any _ l _ _ _ (HT.out.keep hkeep.out (fun _ _ _ h => h)) HI.out (by rw [HL.out]; exact hn)).mono ?_
                rintro e w1 ⟨rfl, hk1⟩
                rw [Q3.out]
                have KX := hid (hkeep.out.trans hk1); have OX := hid (hown.out.keep hk1 (fun _ _ _ h => h)); have zx := hk1.size; have zy := hkeep.out.size
                clear hk1
                go_wp2_with (at_builtin; refine wpList_append_row rfl _ _ 42 rfl 3 i0 (.int .i64 0) 1 8 Try.underlying42 hi0 hz0 hz1 hz2 rfl (by decide) _ (fun _ => True) _ _ _ _ rfl (OX.out.alloc _) 1 _ rfl (src_one _ _ trivial) (by intro u hu; simp at hu; subst hu; rfl) ?h1 ?h2 ?_)
                case h1 => simp [maxLen]; omega
                case h2 => omega
                intro a1 cap1 w2 hown' hgrow; try intro _
                have H5 := hid hown'
                have HK5 : Hd (Keeps (fun b => w.heap.size ≤ b) w1 w2) := hid ((keeps_alloc _ w1 _).trans hgrow)
                clear hown' hgrow
                go_wp2
                go_roundw
                case rel =>
                  refine ⟨(j + 1) + 1, a1, m5 + 1, cap1, by go_num, rfl, by omega, by omega, hid (by rw [HN.out]; simp [hml.out]), hid ?_, hid (KX.out.after HK5.out)⟩
                  have := H5.out.mono (K' := fun b => w.heap.size ≤ b) (fun b _ hb => by rcases hb with hb | hb <;> omega)
                  rw [HN.out, i64s_append]; exact this
                case measure => first | (simp [intOf]; done) | (simp [intOf]; omega)
              · have HN : Hd (tksTo l c ((j + 1) + 1) = tksTo l c (j + 1)) := hid (tksTo_no (by rw [HX.out]; intro h; exact q3 h.2.2))
                have Q3 : (((ah l (c - z) : Nat) : Int) == (j : Int) + 1) = false := by simp; omega
                clear q3
                go_wp2_with fail
                refine (ahead_any _ l _ _ _ (HT.out.keep hkeep.out (fun _ _ _ h => h)) HI.out (by rw [HL.out]; exact hn)).mono ?_
                rintro e w1 ⟨rfl, hk1⟩
                have KX := hid (hkeep.out.trans hk1); have OX := hid (hown.out.keep hk1 (fun _ _ _ h => h))
                clear hk1 hown
                go_wp2
                go_roundw
                case rel => exact ⟨(j + 1) + 1, a5, m5, c5, by go_num, rfl, by omega, by omega, hid (by rw [HN.out]; exact hml.out), hid (by rw [HN.out]; exact OX.out), KX⟩
                case measure => first | (simp [intOf]; done) | (simp [intOf]; omega)
            · have HN : Hd (tksTo l c ((j + 1) + 1) = tksTo l c (j + 1)) := hid (tksTo_no (by rw [HX.out]; intro h; exact q2 h.2.1))
              have KX := hkeep
              go_wp2
              go_roundw
              case rel => exact ⟨(j + 1) + 1, a5, m5, c5, by go_num, rfl, by omega, by omega, hid (by rw [HN.out]; exact hml.out), hid (by rw [HN.out]; exact hown.out), KX⟩
              case measure => first | (simp [intOf]; done) | (simp [intOf]; omega)
          · have HN : Hd (tksTo l c ((j + 1) + 1) = tksTo l c (j + 1)) := hid (tksTo_no (by rw [HX.out]; intro h; exact q1 h.1))
            have KX := hkeep
            go_wp2
            go_roundw
            case rel => exact ⟨(j + 1) + 1, a5, m5, c5, by go_num, rfl, by omega, by omega, hid (by rw [HN.out]; exact hml.out), hid (by rw [HN.out]; exact hown.out), KX⟩
            case measure => first | (simp [intOf]; done) | (simp [intOf]; omega)
      · have hkk : k = n + 1 := by omega
        go_wp2
        go_ret
        refine ⟨a5, m5, c5, rfl, ?_, ?_, hkeep.out⟩
        · rw [HE.out, hml.out, hkk]
        · rw [HE.out, ← hkk]; exact hown.out
end Go.Proofs.Ytjdalhnffhoknaa
