/- The walks of the leap tables. -/
import Derived.Test.YtjdalhnffhoknaaClockE
namespace Go.Proofs.Ytjdalhnffhoknaa
open Go.RowKit

structure Lp where
  at_ : Int
  off : Int
def lpc (l : List Lp) : List Value := l.flatMap fun x => [.int .i64 x.at_, .int .i64 x.off]
theorem lpc_len (l : List Lp) : (lpc l).length = l.length * 2 := by
  induction l with
  | nil => rfl
  | cons x l ih => simp [lpc] at ih ⊢; omega
theorem lpc_at (l : List Lp) : ∀ (k : Nat) (h : k < l.length), (lpc l).getD (k * 2) undef = .int .i64 l[k].at_ ∧ (lpc l).getD (k * 2 + 1) undef = .int .i64 l[k].off := by
  induction l with
  | nil => intro k h; simp at h
  | cons x l ih =>
    intro k h
    cases k with
    | zero => simp [lpc, List.getD]
    | succ k =>
      have := ih k (by simpa using h)
      have e : lpc (x :: l) = .int .i64 x.at_ :: .int .i64 x.off :: lpc l := by simp [lpc]
      rw [e, show (k + 1) * 2 = k * 2 + 1 + 1 by omega]
      simpa [List.getD] using this
/-- a leap table -/
def Tab (K : Nat → Prop) (w : World) (v : Value) (l : List Lp) : Prop := Row K w 2 v l.length (lpc l)
theorem Tab.form {K : Nat → Prop} {w : World} {v : Value} {l : List Lp} (h : Tab K w v l) : ∃ a cap, v = .slice a l.length cap ∧ l.length ≤ cap ∧ cap ≤ maxLen ∧
    (0 < l.length → ∃ b o, a = some ⟨b, o, none⟩ ∧ K b ∧ b < w.heap.size ∧ ∀ k, (hk : k < l.length) → w.cell? ⟨b, o + k * 2, none⟩ = some (.int .i64 l[k].at_) ∧ w.cell? ⟨b, o + k * 2 + 1, none⟩ = some (.int .i64 l[k].off)) := by
  obtain ⟨a, cap, h0, h1, h2, h3⟩ := Row.form h
  refine ⟨a, cap, h0, h1, h2, fun hp => ?_⟩
  obtain ⟨b, o, h4, h5, h6, h7⟩ := h3 hp
  refine ⟨b, o, h4, h5, h6, fun k hk => ?_⟩
  have e := lpc_at l k hk
  have h8 := h7 (k * 2) (by omega)
  have h9 := h7 (k * 2 + 1) (by omega)
  rw [e.1] at h8
  rw [e.2] at h9
  exact ⟨h8, by rw [Nat.add_assoc]; exact h9⟩
theorem Tab.keep {K S : Nat → Prop} {w w' : World} {v : Value} {l : List Lp} (h : Tab K w v l) (hk : Keeps S w w') (hd : ∀ b, b < w.heap.size → K b → ¬ S b) : Tab K w' v l := Row.keep h hk hd
theorem Tab.drawn {K : Nat → Prop} {w w' : World} {v : Value} {l : List Lp} (h : Tab K w v l) (hd : Drawn w w') : Tab K w' v l := Row.drawn h hd

def past (l : List Lp) (tick : Int) (k : Nat) : Bool := decide (tick < (l.getD k ⟨0, 0⟩).at_)
def RetD (v : Value) (w : World) (e : Ending) (w' : World) : Prop := e = .returned v ∧ Drawn w w'
set_option maxRecDepth 100000 in set_option maxHeartbeats 400000 in
theorem ahead1_any (K : Nat → Prop) (v : Value) (l : List Lp) (tick : Int) (k bt bk : Nat) (w : World) (ht : Tab K w v l) (hk : k < l.length) (h1 : w.cell? ⟨bt, 0, none⟩ = some v) (h2 : w.cell? ⟨bk, 0, none⟩ = some (.int .i64 tick)) :
    Calls Try.prog 57 #[.int .i64 k, .pointer (some ⟨bt, 0, none⟩), .pointer (some ⟨bk, 0, none⟩)] w fun e w' => RetD (.bool (past l tick k)) w e w' := by
  obtain ⟨a, cap, rfl, hl, hc, hx⟩ := ht.form
  obtain ⟨b, o, rfl, _, _, hx'⟩ := hx (by omega)
  obtain ⟨c0, g0⟩ := hx' k hk
  have HE : Hd (past l tick k = decide (tick < l[k].at_)) := hid (by unfold past; simp [List.getD, hk])
  clear hx hx' ht g0
  generalize l[k].at_ = z at *
  generalize l.length = n at *
  unfold maxLen at hc
  have hk1 : (k : Int) < n := by omega
  have hk2 : (0 : Int) ≤ (k : Int) := by omega
  go_enter Try.func57, Try.ntmps57
  go_wp2
  go_quiet (fail)
  go_wp2
  go_ret
  exact ⟨ret_bool HE.out.symm, _, rfl⟩
def SRes (n : Nat) (p : Nat → Bool) (w : World) (e : Ending) (w' : World) : Prop := ∃ r : Nat, e = .returned (.int .i64 r) ∧ r ≤ n ∧ (∀ k, k + 1 = r → p k = false) ∧ (r < n → p r = true) ∧ Drawn w w'
theorem false_next {p : Nat → Bool} {m : Nat} (h : p m = false) : ∀ k, k + 1 = m + 1 → p k = false := fun k hk => by
  obtain rfl : k = m := by omega
  exact h
theorem true_at {p : Nat → Bool} {a b n : Nat} (h1 : a ≤ b) (h2 : b ≤ a) (h : b < n → p b = true) : a < n → p a = true := by
  obtain rfl : a = b := by omega
  exact h
set_option maxRecDepth 100000 in set_option maxHeartbeats 1000000 in
theorem Search_any (v1 v2 : Value) (p : Nat → Bool) (n : Nat) (w : World) (hn : n ≤ 1000000000)
    (hf : ∀ (k : Nat) (w' : World), k < n → Drawn w w' → Calls Try.prog 57 #[.int .i64 k, v1, v2] w' fun e w'' => RetD (.bool (p k)) w' e w'') :
    Calls Try.prog 56 #[.int .i64 n, .func (.func 57) #[] #[v1, v2]] w fun e w' => SRes n p w e w' := by
  have HF := hid hf; clear hf
  go_enter Try.func56, Try.ntmps56
  go_wp2_with fail
  go_loopw [5, 6] (fun i j wr => ∃ a b : Nat, i = .int .i64 a ∧ j = .int .i64 b ∧ a ≤ b ∧ b ≤ n ∧ Hd (∀ k, k + 1 = a → p k = false) ∧ Hd (b < n → p b = true) ∧ Hd (Drawn w wr)) (fun i j _ => (intOf j).toNat - (intOf i).toNat)
  case atStart => exact ⟨0, n, rfl, rfl, by omega, by omega, hid (by omega), hid (by omega), hid (Drawn.refl _)⟩
  case round =>
    obtain ⟨a, b, rfl, rfl, hab, hbn, ha, hb, hd⟩ := hrel
    by_cases hlt : a < b
    · obtain ⟨m, hm⟩ : ∃ m : Nat, ((a : Int) + b) / 2 = m := ⟨(a + b) / 2, by omega⟩
      have hm1 : a ≤ m := by omega
      have hm2 : m < b := by omega
      have HC := HF.out m wr (by omega) hd.out
      cases hp : p m
      · rw [hp] at HC
        replace HC := hid HC
        have HP := hid hp; clear hp
        go_wp2_with fail
        refine HC.out.mono ?_
        rintro e w1 ⟨rfl, h1⟩
        have D1 := hid (hd.out.trans h1); clear h1
        go_wp2
        go_roundw
        case rel => exact ⟨m + 1, b, by go_num, rfl, by omega, by omega, hid (false_next HP.out), hb, D1⟩
        case measure => simp [intOf]; omega
      · rw [hp] at HC
        replace HC := hid HC
        have HP := hid hp; clear hp
        go_wp2_with fail
        refine HC.out.mono ?_
        rintro e w1 ⟨rfl, h1⟩
        have D1 := hid (hd.out.trans h1); clear h1
        go_wp2
        go_roundw
        case rel => exact ⟨a, m, rfl, rfl, by omega, by omega, ha, hid (fun _ => HP.out), D1⟩
        case measure => simp [intOf]; omega
    · have hge : b ≤ a := by omega
      go_wp2
      go_ret
      exact ⟨a, rfl, by omega, ha.out, true_at hab hge hb.out, hd.out⟩
/-- how many entries are in force at a tick -/
def ah (l : List Lp) (tick : Int) : Nat := (l.filter fun x => decide (x.at_ ≤ tick)).length
/-- increasing -/
def inc (l : List Lp) : Prop := ∀ j k : Nat, j < k → k < l.length → (l.getD j ⟨0, 0⟩).at_ < (l.getD k ⟨0, 0⟩).at_
theorem inc_tail {x : Lp} {l : List Lp} (h : inc (x :: l)) : inc l := fun j k h1 h2 => by
  have := h (j + 1) (k + 1) (by omega) (by simpa using h2)
  simpa [List.getD] using this
theorem ah_le (l : List Lp) (t : Int) : ah l t ≤ l.length := List.length_filter_le _ _
theorem ah_none {l : List Lp} {t : Int} (h : ∀ k, k < l.length → t < (l.getD k ⟨0, 0⟩).at_) : ah l t = 0 := by
  unfold ah
  rw [List.filter_eq_nil_iff.2]
  · rfl
  · intro x hx
    obtain ⟨k, hk, rfl⟩ := List.getElem_of_mem hx
    have := h k hk
    simp [List.getD, hk] at this
    simp; omega
/-- the place of a tick is where the search stops -/
theorem ah_eq : ∀ (l : List Lp) (t : Int) (r : Nat), inc l → r ≤ l.length → (∀ k, k + 1 = r → past l t k = false) → (r < l.length → past l t r = true) → ah l t = r
  | [], t, r, _, h1, _, _ => by simp at h1; subst h1; rfl
  | x :: l, t, 0, hi, _, _, h3 => by
    refine ah_none fun k hk => ?_
    have h4 := h3 (by simp)
    unfold past at h4
    have h5 : t < ((x :: l).getD 0 ⟨0, 0⟩).at_ := by simpa using h4
    cases k with
    | zero => exact h5
    | succ k => have := hi 0 (k + 1) (by omega) hk; omega
  | x :: l, t, r + 1, hi, h1, h2, h3 => by
    have h4 := h2 r rfl
    unfold past at h4
    have h5 : ((x :: l).getD r ⟨0, 0⟩).at_ ≤ t := by simpa using h4
    have hx : x.at_ ≤ t := by
      cases r with
      | zero => simpa [List.getD] using h5
      | succ r =>
        have h9 := hi 0 (r + 1) (by omega) (by simp at h1 ⊢; omega)
        rw [List.getD_cons_zero] at h9
        omega
    have h1' : r ≤ l.length := by simpa using h1
    have ih := ah_eq l t r (inc_tail hi) h1' (fun k hk => by
      subst hk
      have h6 : ((x :: l).getD (k + 1) ⟨0, 0⟩).at_ ≤ t := h5
      rw [List.getD_cons_succ] at h6
      exact decide_eq_false (by omega)) (fun h => by
      have h7 := h3 (by simpa using Nat.succ_lt_succ h)
      have h8 := of_decide_eq_true h7
      rw [List.getD_cons_succ] at h8
      exact decide_eq_true h8)
    unfold ah at ih ⊢
    simp [List.filter_cons, hx, ih]
def RetK (v : Value) (w : World) (e : Ending) (w' : World) : Prop := e = .returned v ∧ Keeps (fun _ => False) w w'
set_option maxRecDepth 100000 in set_option maxHeartbeats 1000000 in
theorem ahead_any (v : Value) (l : List Lp) (tick : Int) (w : World) (K : Nat → Prop) (ht : Tab K w v l) (hi : inc l) (hn : l.length ≤ 1000000) :
    Calls Try.prog 50 #[v, .int .i64 tick] w fun e w' => RetK (.int .i64 (ah l tick : Nat)) w e w' := by
  have HT := hid ht; have HI := hid hi
  obtain ⟨a, cap, rfl, hx⟩ := ht.form
  clear ht hi hx
  generalize hll : l.length = n at *
  have HL := hid hll; clear hll
  go_enter Try.func50, Try.ntmps50
  go_wp2_with fail
  generalize hW : World.alloc (World.alloc w _) _ = W
  have B1 : Blk W w.heap.size #[.slice a n cap] 43 := by rw [← hW]; exact blk_alloc (blk_new _ _ _) _
  have B2 : Blk W (w.heap.size + 1) #[.int .i64 tick] 3 := by rw [← hW]; exact blk_new' _ _ _ _ (by simp)
  have HK : Hd (Keeps (fun _ => False) w W) := hid (by rw [← hW]; repeat (first | (with_reducible assumption) | (with_reducible exact Keeps.refl _ _) | (with_reducible apply Keeps.drewN) | (with_reducible apply Keeps.drew) | (with_reducible apply Keeps.alloc) | refine Keeps.setCell ?_ (by first | (simp; done) | (simp; omega)) _))
  clear hW
  have HT1 := HT.out.keep HK.out (fun _ _ _ h => h)
  refine (Search_any _ _ (past l tick) n _ (by omega) (fun k w' hk hd => ahead1_any K _ l tick k _ _ w' (HT1.drawn hd) (by rw [HL.out]; exact hk) (hd.cell (blk_cell B1 0)) (hd.cell (blk_cell B2 0)))).mono ?_
  rintro e w1 ⟨r, rfl, h1, h2, h3, h4⟩
  have HR : Hd (ah l tick = r) := hid (ah_eq l tick r HI.out (by rw [HL.out]; exact h1) h2 (by rw [HL.out]; exact h3))
  have K1 := hid (HK.out.trans (drawn_keeps _ h4))
  clear h1 h2 h3 h4 HT1 B1 B2
  go_wp2
  go_ret
  exact ⟨ret_int (by rw [HR.out]), K1.out⟩
/-- the civil time of a tick -/
def civ (l : List Lp) (tick : Int) : Int := if ah l tick = 0 then tick else tick + (l.getD (ah l tick - 1) ⟨0, 0⟩).off
def offs (l : List Lp) : Prop := ∀ x ∈ l, -100 ≤ x.off ∧ x.off ≤ 100
theorem off_at {l : List Lp} (h : offs l) {k : Nat} (hk : k < l.length) : -100 ≤ l[k].off ∧ l[k].off ≤ 100 := h _ (List.getElem_mem hk)
set_option maxRecDepth 100000 in set_option maxHeartbeats 1000000 in
theorem Civil_any (v : Value) (l : List Lp) (tick : Int) (w : World) (K : Nat → Prop) (ht : Tab K w v l) (hi : inc l) (ho : offs l) (hn : l.length ≤ 1000000) (h0 : -1000000000 ≤ tick) (h1 : tick ≤ 1000000000) :
    Calls Try.prog 29 #[v, .int .i64 tick] w fun e w' => RetK (.int .i64 (civ l tick)) w e w' := by
  have HT := hid ht; have HI := hid hi; have HO := hid ho
  obtain ⟨a, cap, rfl, hl, hc, hx0⟩ := ht.form
  unfold maxLen at hc
  clear ht hi ho hx0
  go_enter Try.func29, Try.ntmps29
  go_wp2_with fail
  refine (ahead_any _ l tick _ K HT.out HI.out hn).mono ?_
  rintro e w1 ⟨rfl, hk⟩
  have HT1 := HT.out.keep hk (fun _ _ _ h => h)
  have HK1 := hid hk
  have hle := ah_le l tick
  clear hk
  by_cases hz : ah l tick = 0
  · have HE : Hd (civ l tick = tick) := hid (by unfold civ; rw [if_pos hz])
    clear HT1
    rw [hz]
    go_wp2
    go_ret
    exact ⟨ret_int HE.out.symm, HK1.out⟩
  · have HE : Hd (civ l tick = tick + (l.getD (ah l tick - 1) ⟨0, 0⟩).off) := hid (by unfold civ; rw [if_neg hz])
    obtain ⟨a', cap', hva, _, _, hx⟩ := HT1.form
    obtain ⟨b, o, rfl, _, _, hx2⟩ := hx (by omega)
    injection hva with hva1 hva2 hva3
    subst hva1
    obtain ⟨m, hm⟩ : ∃ m, ah l tick = m + 1 := ⟨ah l tick - 1, by omega⟩
    rw [hm] at HE hle ⊢
    have hml : m < l.length := by omega
    obtain ⟨_, c1⟩ := hx2 m hml
    obtain ⟨o1, o2⟩ := off_at HO.out hml
    have HG : Hd (l.getD (m + 1 - 1) ⟨0, 0⟩ = l[m]) := hid (by simp [List.getD, hml])
    clear hx hx2 HT1 hva2 hva3 hz hm
    generalize l[m] = x at *
    generalize l.length = n at *
    have hk1 : (m : Int) < n := by omega
    have hk2 : (0 : Int) ≤ (m : Int) := by omega
    have e1 : ((m + 1 : Nat) : Int) - 1 = m := by omega
    go_wp2
    go_ret
    exact ⟨ret_int (by rw [HE.out, HG.out]), HK1.out⟩
end Go.Proofs.Ytjdalhnffhoknaa
