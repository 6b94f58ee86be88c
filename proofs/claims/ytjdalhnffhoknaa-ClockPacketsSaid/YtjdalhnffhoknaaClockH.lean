/- The walks of CheckLeaps and of the reference's Check. -/
import Derived.Test.YtjdalhnffhoknaaClockG
namespace Go.Proofs.Ytjdalhnffhoknaa
open Go.RowKit

def Lp.bad (x : Lp) : Prop := x.at_ < 0 ∨ 1000000 < x.at_ ∨ x.off < -100 ∨ 100 < x.off
instance (x : Lp) : Decidable x.bad := by unfold Lp.bad; infer_instance
def chkFrom : Int → List Lp → Int
  | _, [] => 0
  | last, x :: l => if x.bad then 5 else if x.at_ ≤ last then 23 else chkFrom x.at_ l
def chk (l : List Lp) : Int := if 32 < l.length then 2 else chkFrom (-1) l
theorem chk_step {l : List Lp} {k : Nat} (h : k < l.length) (last : Int) : chkFrom last (l.drop k) = if l[k].bad then 5 else if l[k].at_ ≤ last then 23 else chkFrom l[k].at_ (l.drop (k + 1)) := by
  rw [List.drop_eq_getElem_cons h]; rfl
set_option maxRecDepth 100000 in set_option maxHeartbeats 1000000 in
theorem CheckLeaps_any (v : Value) (l : List Lp) (w : World) (K : Nat → Prop) (ht : Tab K w v l) :
    Calls Try.prog 35 #[v] w fun e w' => RetK (.int .i64 (chk l)) w e w' := by
  have HT : Hd (Tab (fun b => b < w.heap.size) w v l) := hid (ht.mono (fun b h _ => h))
  obtain ⟨a, cap, rfl, hl, hc, hx0⟩ := ht.form
  unfold maxLen at hc
  clear ht hx0
  by_cases hr : 32 < l.length
  · have HE : Hd (chk l = 2) := hid (by unfold chk; rw [if_pos hr])
    generalize hll : l.length = n at *
    have HL := hid hll; clear hll
    go_enter Try.func35, Try.ntmps35
    go_wp2
    go_ret
    exact ⟨ret_int HE.out.symm, Keeps.refl _ _⟩
  · have HE : Hd (chk l = chkFrom (-1) l) := hid (by unfold chk; rw [if_neg hr])
    generalize hll : l.length = n at *
    have HL := hid hll; clear hll
    go_enter Try.func35, Try.ntmps35
    go_wp2_with fail
    go_loopw [3, 11] (fun s i wr => ∃ (k : Nat) (last : Int), i = .int .i64 k ∧ s = .int .i64 last ∧ k ≤ n ∧ Hd (chkFrom (-1) l = chkFrom last (l.drop k)) ∧ Hd (Keeps (fun _ => False) w wr)) (fun _ i _ => n - (intOf i).toNat)
    case atStart => exact ⟨0, -1, rfl, rfl, by omega, hid rfl, hid (Keeps.refl _ _)⟩
    case round =>
      obtain ⟨k, last, rfl, rfl, hk, hck, hkeep⟩ := hrel
      by_cases hlt : k < n
      · have hkn : k < l.length := by rw [HL.out]; exact hlt
        have HTR := HT.out.keep hkeep.out (fun _ _ _ h => h)
        obtain ⟨a', cap', hva, q9, q8, hx⟩ := HTR.form
        rw [HL.out] at hva
        injection hva with hva1 hva2 hva3
        obtain ⟨b, o, hb, q7, q6, hx2⟩ := hx (by omega)
        subst hb
        subst hva1
        obtain ⟨c0, c1⟩ := hx2 k hkn
        have HC := hid (chk_step hkn last)
        clear hx hx2 HTR hva2 hva3 q9 q8 q7 q6
        generalize l[k] = x at *
        have hk1 : (k : Int) < n := by omega
        have hk2 : (0 : Int) ≤ (k : Int) := by omega
        by_cases hbad : x.bad
        · have HR : Hd (chk l = 5) := hid (by rw [HE.out, hck.out, HC.out, if_pos hbad])
          unfold Lp.bad at hbad
          rcases hbad with h | h | h | h
          all_goals
            go_wp2
          all_goals
            go_ret
            exact ⟨ret_int HR.out.symm, hkeep.out.alloc _⟩
        · have b5 : 0 ≤ x.at_ ∧ x.at_ ≤ 1000000 ∧ -100 ≤ x.off ∧ x.off ≤ 100 := by unfold Lp.bad at hbad; omega
          obtain ⟨b1, b2, b3, b4⟩ := b5
          by_cases ho : x.at_ ≤ last
          · have HR : Hd (chk l = 23) := hid (by rw [HE.out, hck.out, HC.out, if_neg hbad, if_pos ho])
            clear hbad
            go_wp2
            go_ret
            exact ⟨ret_int HR.out.symm, hkeep.out.alloc _⟩
          · have HN : Hd (chkFrom (-1) l = chkFrom x.at_ (l.drop (k + 1))) := hid (by rw [hck.out, HC.out, if_neg hbad, if_neg ho])
            clear hbad
            go_wp2
            go_roundw
            case rel => exact ⟨k + 1, x.at_, by go_num, rfl, by omega, HN, hid (hkeep.out.alloc _)⟩
            case measure => first | (simp [intOf]; done) | (simp [intOf]; omega)
      · have hkn : k = n := by omega
        have HR : Hd (chk l = 0) := hid (by rw [HE.out, hck.out, hkn, ← HL.out, List.drop_length]; rfl)
        go_wp2
        go_ret
        exact ⟨ret_int HR.out.symm, hkeep.out⟩
set_option maxRecDepth 100000 in set_option maxHeartbeats 1000000 in
theorem RCheck_any (v : Value) (l : List Lp) (w : World) (K : Nat → Prop) (ht : Tab K w v l) :
    Calls Try.prog 36 #[v] w fun e w' => RetK (.int .i64 (chk l)) w e w' := by
  have HT : Hd (Tab (fun b => b < w.heap.size) w v l) := hid (ht.mono (fun b h _ => h))
  obtain ⟨a, cap, rfl, hl, hc, hx0⟩ := ht.form
  unfold maxLen at hc
  clear ht hx0
  by_cases hr : 32 < l.length
  · have HE : Hd (chk l = 2) := hid (by unfold chk; rw [if_pos hr])
    generalize hll : l.length = n at *
    have HL := hid hll; clear hll
    go_enter Try.func36, Try.ntmps36
    go_wp2
    go_ret
    exact ⟨ret_int HE.out.symm, Keeps.refl _ _⟩
  · have HE : Hd (chk l = chkFrom (-1) l) := hid (by unfold chk; rw [if_neg hr])
    generalize hll : l.length = n at *
    have HL := hid hll; clear hll
    go_enter Try.func36, Try.ntmps36
    go_wp2_with fail
    go_loopw [3] (fun i wr => ∃ (k : Nat) (last : Int), i = .int .i64 k ∧ k ≤ n ∧ Hd (chkFrom (-1) l = chkFrom last (l.drop k)) ∧ Hd (last = if k = 0 then -1 else (l.getD (k - 1) ⟨0, 0⟩).at_) ∧ Hd (Drawn w wr)) (fun i _ => n - (intOf i).toNat)
    case atStart => exact ⟨0, -1, rfl, by omega, hid rfl, hid rfl, hid (Drawn.refl _)⟩
    case round =>
      obtain ⟨k, last, rfl, hk, hck, hlast, hkeep⟩ := hrel
      by_cases hlt : k < n
      · have hkn : k < l.length := by rw [HL.out]; exact hlt
        have HTR := HT.out.drawn hkeep.out
        obtain ⟨a', cap', hva, q9, q8, hx⟩ := HTR.form
        rw [HL.out] at hva
        injection hva with hva1 hva2 hva3
        obtain ⟨b, o, hb, q7, q6, hx2⟩ := hx (by omega)
        subst hb
        subst hva1
        obtain ⟨c0, c1⟩ := hx2 k hkn
        have HC := hid (chk_step hkn last)
        have HG : Hd (l.getD k ⟨0, 0⟩ = l[k]) := hid (by simp [List.getD, hkn])
        have hk1 : (k : Int) < n := by omega
        have hk2 : (0 : Int) ≤ (k : Int) := by omega
        by_cases hbad : (l[k]).bad
        · clear hx hx2 HTR hva2 hva3 q9 q8 q7 q6
          have HR : Hd (chk l = 5) := hid (by rw [HE.out, hck.out, HC.out, if_pos hbad])
          generalize l[k] = x at *
          unfold Lp.bad at hbad
          rcases hbad with h | h | h | h
          all_goals
            go_wp2
          all_goals
            go_ret
            exact ⟨ret_int HR.out.symm, drawn_keeps _ hkeep.out⟩
        · have b5 : 0 ≤ (l[k]).at_ ∧ (l[k]).at_ ≤ 1000000 ∧ -100 ≤ (l[k]).off ∧ (l[k]).off ≤ 100 := by unfold Lp.bad at hbad; omega
          obtain ⟨b1, b2, b3, b4⟩ := b5
          by_cases h0 : k = 0
          · subst h0
            have hl1 : last = -1 := hlast.out
            have HN : Hd (chkFrom (-1) l = chkFrom l[0].at_ (l.drop (0 + 1))) := hid (by rw [hck.out, HC.out, if_neg hbad, if_neg (by omega)])
            have HN2 : Hd (l[0].at_ = if 0 + 1 = 0 then -1 else (l.getD (0 + 1 - 1) ⟨0, 0⟩).at_) := hid (by simp [List.getD, hkn])
            clear hx hx2 HTR hva2 hva3 q9 q8 q7 q6 hbad hl1
            generalize l[0] = x at *
            have c0' : wr.cell? ⟨b, o, none⟩ = some (.int .i64 x.at_) := by simpa using c0
            have c1' : wr.cell? ⟨b, o + 1, none⟩ = some (.int .i64 x.off) := by simpa using c1
            clear c0 c1
            go_wp2_with fail
            go_quiet (fail)
            go_wp2
            go_roundw
            case rel => exact ⟨0 + 1, x.at_, by go_num, by omega, HN, HN2, hid (drawn_n hkeep.out _)⟩
            case measure => first | (simp [intOf]; done) | (simp [intOf]; omega)
          · obtain ⟨j, rfl⟩ : ∃ j, k = j + 1 := ⟨k - 1, by omega⟩
            have hjl : j < l.length := by omega
            obtain ⟨d0, d1⟩ := hx2 j hjl
            have hl1 : last = l[j].at_ := by rw [hlast.out, if_neg (by omega)]; simp [List.getD, hjl]
            have HB := hid hbad
            have e1 : ((j + 1 : Nat) : Int) - 1 = j := by omega
            have e2 : ((j : Int) + 1) - 1 = j := by omega
            have hj1 : (j : Int) < n := by omega
            have hj2 : (0 : Int) ≤ (j : Int) := by omega
            have HN2 : Hd (l[j + 1].at_ = if j + 1 + 1 = 0 then -1 else (l.getD (j + 1 + 1 - 1) ⟨0, 0⟩).at_) := hid (by simp [List.getD, hkn])
            rw [hl1] at hck HC
            by_cases ho : l[j + 1].at_ ≤ l[j].at_
            · have HR : Hd (chk l = 23) := hid (by rw [HE.out, hck.out, HC.out, if_neg HB.out, if_pos ho])
              clear hx hx2 HTR hva2 hva3 q9 q8 q7 q6 hbad hl1 hlast HN2 hck HC HB HG
              generalize l[j + 1] = x at *
              generalize l[j] = y at *
              go_wp2_with fail
              go_quiet (fail)
              go_wp2
              go_ret
              exact ⟨ret_int HR.out.symm, drawn_keeps _ (drawn_n hkeep.out _)⟩
            · have HN : Hd (chkFrom (-1) l = chkFrom l[j + 1].at_ (l.drop (j + 1 + 1))) := hid (by rw [hck.out, HC.out, if_neg HB.out, if_neg ho])
              clear hx hx2 HTR hva2 hva3 q9 q8 q7 q6 hbad hl1 hlast hck HC HB HG
              generalize l[j + 1] = x at *
              generalize l[j] = y at *
              go_wp2_with fail
              go_quiet (fail)
              go_wp2
              go_roundw
              case rel => exact ⟨j + 1 + 1, x.at_, by go_num, by omega, HN, HN2, hid (drawn_n hkeep.out _)⟩
              case measure => first | (simp [intOf]; done) | (simp [intOf]; omega)
      · have hkn : k = n := by omega
        have HR : Hd (chk l = 0) := hid (by rw [HE.out, hck.out, hkn, ← HL.out, List.drop_length]; rfl)
        go_wp2
        go_ret
        exact ⟨ret_int HR.out.symm, drawn_keeps _ hkeep.out⟩
end Go.Proofs.Ytjdalhnffhoknaa
