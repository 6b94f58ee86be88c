/- Frame: rounds in which everything that is missing is sent. -/
import Derived.Test.YthoikljmokkchaaDoorFrPE
namespace Go.Proofs.YthoikljmokkchaaDoor
open Go.RowKit
theorem recv_top {r : Rv} {f : Fr} {T : Int} (h1 : r.nx ≤ T + 1) (h2 : ∀ x ∈ r.fs, x.q ≤ T) (hq : f.q ≤ T) (hr1 : r.nx - 128 ≤ f.q) (hr2 : f.q ≤ r.nx + 15) (hu : f.u = false) :
    (recvM r f).1.nx ≤ T + 1 ∧ ∀ x ∈ (recvM r f).1.fs, x.q ≤ T := by
  have hd := distM_cast f.q r.nx
  have hdl := distM_lt f.q r.nx
  unfold recvM
  split
  · exact ⟨h1, h2⟩
  · split
    · exact ⟨h1, h2⟩
    · unfold recv2
      rw [hu]
      simp only [Bool.false_eq_true, if_false]
      split
      · exact ⟨h1, h2⟩
      · split
        · unfold delivM
          refine ⟨?_, fun x hx => h2 x (List.mem_of_mem_drop hx)⟩
          show r.nx + 1 + _ ≤ _
          have hl := dlvN_le r.fs (r.nx + 1)
          rcases Nat.eq_zero_or_pos (dlvN (r.nx + 1) r.fs) with h0 | h0
          · rw [h0]; push_cast; omega
          · have hlt : dlvN (r.nx + 1) r.fs - 1 < r.fs.length := by omega
            have h3 := dlvN_in r.fs (r.nx + 1) (dlvN (r.nx + 1) r.fs - 1) _ (by omega) (List.getElem?_eq_getElem hlt)
            have h4 := h2 _ (List.getElem_mem hlt)
            omega
        · split
          · refine ⟨h1, fun x hx => ?_⟩
            rcases insM_mem hx with rfl | hx
            · show r.nx + _ ≤ _; omega
            · exact h2 x hx
          · split
            · exact ⟨h1, h2⟩
            · exact ⟨h1, h2⟩
def roundStep (m : WM) (q : Int) : WM := arriveM ⟨(emitM m.s q).2.1, m.r, m.fs, m.rp, m.gt⟩ (emitM m.s q).1
def roundS (m : WM) : WM := ⟨confirmM m.s (stateM m.r), m.r, m.fs, m.rp, m.gt⟩
def roundL (m : WM) : List Int := missM (roundS m).s (stateM m.r)
def roundAt (m : WM) (i : Nat) : WM := ((roundL m).take i).foldl roundStep (roundS m)
def roundM (m : WM) : WM := (roundL m).foldl roundStep (roundS m)
theorem state_ok (r : Rv) (h : 0 ≤ r.nx) : RpOk r (stateM r) := ⟨h, Int.le_refl _, Int.le_refl _⟩
theorem winv_roundS {key : Nat} {m : WM} {n : Nat} (h : WInv key m n) : WInv key (roundS m) n := winv_confirm h (state_ok _ h.r.n0)
theorem roundS_a {key : Nat} {m : WM} {n : Nat} (h : WInv key m n) : (roundS m).s.a = m.r.nx := by
  have h1 := h.r.n1; have h2 := h.a1
  show ackN m.s.a m.r.nx m.s.bs.length = _
  unfold ackN; omega
theorem roundL_eq {key : Nat} {m : WM} {n : Nat} (h : WInv key m n) : roundL m = misI m.r.nx (havI m.r.nx m.r.fs) m.r.nx (min (m.r.nx + 16) (m.s.bs.length : Int) - m.r.nx).toNat := by
  have hlk := h.r.lk
  have ha := roundS_a h
  unfold roundL missM
  show (if m.r.lk then [] else _) = _
  rw [hlk, ha]
  simp only [Bool.false_eq_true, if_false]
  show misI m.r.nx _ (max m.r.nx m.r.nx) (min (max m.r.nx m.r.nx + 16) _ - max m.r.nx m.r.nx).toNat = _
  rw [Int.max_self]; rfl
theorem roundL_mem {key : Nat} {m : WM} {n : Nat} (h : WInv key m n) {q : Int} : q ∈ roundL m ↔ m.r.nx ≤ q ∧ q < m.r.nx + 16 ∧ q < m.s.bs.length ∧ ¬ ∃ x ∈ m.r.fs, x.q = q := by
  have h1 := h.r.n1
  rw [roundL_eq h, misI_mem, ← Bool.not_eq_true, hasI_knows (fun x hx => by obtain ⟨g1, g2, _⟩ := h.r.fs x hx; exact ⟨g1, by omega⟩)]
  constructor
  · rintro ⟨g1, g2, g3⟩; exact ⟨g1, by omega, by omega, g3⟩
  · rintro ⟨g1, g2, g3, g4⟩; exact ⟨g1, by omega, g4⟩
structure RS (key : Nat) (m0 m : WM) (n : Nat) (done : List Int) : Prop where
  w : WInv key m n
  bs : m.s.bs = m0.s.bs
  a : m.s.a = m0.r.nx
  nx : m0.r.nx ≤ m.r.nx
  top : m.r.nx ≤ m0.r.nx + 16
  tops : ∀ x ∈ m.r.fs, x.q ≤ m0.r.nx + 15
  old : ∀ p, Knows m0.r p → Knows m.r p
  new : ∀ q ∈ done, Knows m.r q
theorem rs_emit {key : Nat} {m0 m : WM} {n : Nat} {done : List Int} (h : RS key m0 m n done) {q : Int} (h1 : m0.r.nx ≤ q) (h2 : q < m0.r.nx + 16) (h3 : q < m0.s.bs.length) :
    emitM m.s q = (signF m.s.l ⟨q, 0, false, m.s.bs.getD q.toNat [], 0⟩, ⟨m.s.bs, m.s.a, nextL m.s.l⟩, 0) := by
  have hb := h.bs; have ha := h.a; have h0 := h.w.r.n0; have hnx := h.nx; have ha0 := h.w.a0
  unfold emitM
  rw [if_neg (by rw [hb]; omega), if_neg (by omega)]
theorem winv_emit {key : Nat} {m : WM} {n : Nat} (h : WInv key m n) : WInv key ⟨⟨m.s.bs, m.s.a, nextL m.s.l⟩, m.r, m.fs, m.rp, m.gt⟩ (n + 1) := by
  have hm : m.s.l.i ≤ (nextL m.s.l).i := by show m.s.l.i ≤ m.s.l.i + 1; omega
  exact ⟨h.r.mono hm, h.l.next, by have := h.li; show m.s.l.i + 1 ≤ _; push_cast; omega, h.a0, h.a1, by have := h.bn; show m.s.bs.length ≤ _; omega, h.bl, by have := h.fn; show m.fs.length ≤ _; omega, fun x hx => ⟨(h.f x hx).1.mono hm, (h.f x hx).2⟩, by have := h.rn; show m.rp.length ≤ _; omega, h.p, h.g⟩
theorem rs_step {key : Nat} {m0 m : WM} {n : Nat} {done : List Int} (h : RS key m0 m n done) (hn : n ≤ 4000) {q : Int} (h1 : m0.r.nx ≤ q) (h2 : q < m0.r.nx + 16) (h3 : q < m0.s.bs.length) :
    RS key m0 (roundStep m q) (n + 1) (done ++ [q]) ∧ (recvM m.r (emitM m.s q).1).2.2 = 0 := by
  have he := rs_emit h h1 h2 h3
  have hb := h.bs; have ha := h.a; have h0 := h.w.r.n0; have hnx := h.nx; have htop := h.top
  have hg := emit_good (q := q) h.w.l h.w.bl (by have := h.w.a0; omega) (by rw [hb]; exact h3)
  have hwe := winv_emit h.w
  unfold roundStep
  rw [he]
  simp only []
  generalize hf : signF m.s.l ⟨q, 0, false, m.s.bs.getD q.toNat [], 0⟩ = f at *
  have hfq : f.q = q := by rw [← hf]; rfl
  have hfk : f.k = m.s.l.i := by rw [← hf]; rfl
  have hfu : f.u = false := by rw [← hf]; rfl
  have hki := h.w.r.ki; have hkd := h.w.r.kd.1; have hli := h.w.li
  obtain ⟨hA, her, _⟩ := recv_good hwe.r hg (by show m.r.nx - 128 ≤ _; omega) (by show _ ≤ m.r.nx + 15; omega)
  obtain ⟨t1, t2⟩ := recv_top (r := m.r) (f := f) (T := m0.r.nx + 15) (by omega) h.tops (by omega) (by omega) (by omega) hfu
  have hw := hA.winv hwe
  have hok : m.r.l.i ≤ f.k ∧ f.k ≤ m.r.l.i + 4096 := by omega
  refine ⟨⟨hw, hb, ha, Int.le_trans hnx hA.nx, by show (recvM m.r f).1.nx ≤ _; omega, t2, fun p hp => hA.old p (h.old p hp), fun p hp => ?_⟩, ?_⟩
  · rcases List.mem_append.1 hp with hp | hp
    · exact hA.old p (h.new p hp)
    · rw [List.mem_singleton.1 hp, ← hfq]; exact hA.new hok
  · rcases her with h8 | h8
    · exact h8
    · exfalso
      have hl : f.b.length ≤ 512 := hg.l
      have hx : (recvM m.r f).2.2 = 30 := h8
      unfold recvM at hx
      rw [if_neg (by omega)] at hx
      rcases accept_made h.w.r.kd hg.md with ⟨_, hk⟩ | ⟨hac, _⟩
      · omega
      · rw [hac] at hx
        simp only [ne_eq, not_true_eq_false, if_false] at hx
        unfold recv2 delivM at hx
        rw [hfu] at hx
        simp only [Bool.false_eq_true, if_false] at hx
        split at hx
        · simp at hx
        · split at hx
          · simp at hx
          · split at hx
            · simp at hx
            · split at hx <;> simp at hx
theorem rs_start {key : Nat} {m : WM} {n : Nat} (h : WInv key m n) : RS key m (roundS m) n [] :=
  ⟨winv_roundS h, rfl, roundS_a h, Int.le_refl _, by show m.r.nx ≤ _; omega, fun x hx => (h.r.fs x hx).2.1, fun _ h => h, fun q hq => by cases hq⟩
theorem rs_at {key : Nat} {m : WM} {n : Nat} (h : WInv key m n) (hn : n ≤ 3900) : ∀ i, i ≤ (roundL m).length → i ≤ 60 → RS key m (roundAt m i) (n + i) ((roundL m).take i) := by
  intro i
  induction i with
  | zero => intro _ _; exact rs_start h
  | succ i ih =>
    intro hi hi2
    have hlt : i < (roundL m).length := hi
    have hm := (roundL_mem h).1 (List.getElem_mem hlt)
    have := (rs_step (ih (by omega) (by omega)) (by omega) hm.1 hm.2.1 hm.2.2.1).1
    unfold roundAt
    rw [List.take_add_one, List.getElem?_eq_getElem hlt, List.foldl_append]
    exact this
theorem roundL_len {key : Nat} {m : WM} {n : Nat} (h : WInv key m n) : (roundL m).length ≤ 16 := by
  rw [roundL_eq h]
  have := misI_len m.r.nx (havI m.r.nx m.r.fs) m.r.nx (min (m.r.nx + 16) (m.s.bs.length : Int) - m.r.nx).toNat
  omega
theorem roundAt_all (m : WM) : roundAt m (roundL m).length = roundM m := by unfold roundAt roundM; rw [List.take_length]
theorem round_law {key : Nat} {m : WM} {n : Nat} (h : WInv key m n) (hn : n ≤ 3900) : WInv key (roundM m) (n + 16) ∧ (roundM m).s.bs = m.s.bs ∧ min (m.r.nx + 16) (m.s.bs.length : Int) ≤ (roundM m).r.nx := by
  have hl := roundL_len h
  have hr := rs_at h hn _ (Nat.le_refl _) (by omega)
  rw [roundAt_all, List.take_length] at hr
  refine ⟨winv_mono hr.w (by omega), hr.bs, ?_⟩
  rcases Int.lt_or_le (roundM m).r.nx (min (m.r.nx + 16) (m.s.bs.length : Int)) with hlt | hge
  · exfalso
    have hnx := hr.nx
    have hk : Knows (roundM m).r (roundM m).r.nx := by
      by_cases hx : ∃ x ∈ m.r.fs, x.q = (roundM m).r.nx
      · exact hr.old _ (.inr hx)
      · exact hr.new _ ((roundL_mem h).2 ⟨hnx, by omega, by omega, hx⟩)
    rcases hk with hk | ⟨x, hx, e⟩
    · omega
    · have := (hr.w.r.fs x hx).1; omega
  · exact hge
theorem round_emit {key : Nat} {m : WM} {n : Nat} (h : WInv key m n) (hn : n ≤ 3900) {i : Nat} {q : Int} (hq : (roundL m)[i]? = some q) :
    emitM (roundAt m i).s q = (signF (roundAt m i).s.l ⟨q, 0, false, (roundAt m i).s.bs.getD q.toNat [], 0⟩, ⟨(roundAt m i).s.bs, (roundAt m i).s.a, nextL (roundAt m i).s.l⟩, 0) ∧ roundAt m (i + 1) = roundStep (roundAt m i) q := by
  have hi := (List.getElem?_eq_some_iff.1 hq).1
  have hl := roundL_len h
  have hm := (roundL_mem h).1 (List.mem_of_getElem? hq)
  refine ⟨rs_emit (rs_at h hn i (by omega) (by omega)) hm.1 hm.2.1 hm.2.2.1, ?_⟩
  unfold roundAt
  rw [List.take_add_one, hq, List.foldl_append]; rfl
/-- rounds, one after the other -/
def roundsM (m : WM) : Nat → WM
  | 0 => m
  | k + 1 => roundM (roundsM m k)
theorem rounds_law {key : Nat} {m : WM} {n : Nat} (h : WInv key m n) : ∀ k, n + 16 * k ≤ 3900 → WInv key (roundsM m k) (n + 16 * k) ∧ (roundsM m k).s.bs = m.s.bs ∧ min (m.r.nx + 16 * (k : Int)) (m.s.bs.length : Int) ≤ (roundsM m k).r.nx := by
  intro k
  induction k with
  | zero => intro _; exact ⟨h, rfl, by show _ ≤ m.r.nx; push_cast; omega⟩
  | succ k ih =>
    intro hk
    obtain ⟨h1, h2, h3⟩ := ih (by omega)
    obtain ⟨g1, g2, g3⟩ := round_law h1 (by omega)
    refine ⟨winv_mono g1 (by omega), g2.trans h2, ?_⟩
    show _ ≤ (roundM (roundsM m k)).r.nx
    rw [h2] at g3
    push_cast; omega
theorem winv_end {key : Nat} {m : WM} {n : Nat} (h : WInv key m n) (he : (m.s.bs.length : Int) ≤ m.r.nx) : m.r.nx = m.s.bs.length ∧ m.r.fs = [] ∧ m.gt = m.s.bs ∧ roundL m = [] ∧ missM m.s (stateM m.r) = [] := by
  have h1 := h.r.n1
  have e : m.r.nx = m.s.bs.length := by omega
  have hfs : m.r.fs = [] := by
    cases hc : m.r.fs with
    | nil => rfl
    | cons x l => exfalso; obtain ⟨g1, _, g3, _⟩ := h.r.fs x (by rw [hc]; exact List.mem_cons_self); omega
  refine ⟨e, hfs, by rw [h.g, List.take_of_length_le (by omega)], ?_, ?_⟩
  · cases hc : roundL m with
    | nil => rfl
    | cons q l => exfalso; have := (roundL_mem h (q := q)).1 (by rw [hc]; exact List.mem_cons_self); omega
  · have ha := h.a1
    unfold missM
    split
    · rfl
    · show misI _ _ _ (min (max m.s.a m.r.nx + 16) _ - max m.s.a m.r.nx).toNat = []
      rw [show (min (max m.s.a m.r.nx + 16) (m.s.bs.length : Int) - max m.s.a m.r.nx).toNat = 0 by omega]; rfl
end Go.Proofs.YthoikljmokkchaaDoor
