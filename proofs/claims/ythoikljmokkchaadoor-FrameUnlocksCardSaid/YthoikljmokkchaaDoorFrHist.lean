/- Frames: FrPE, FrPF, FrPG: walks and plain facts. -/
import Derived.Test.YthoikljmokkchaaDoorFrPlain
import Derived.Test.YthoikljmokkchaaDoorFrZ
import Derived.Test.YthoikljmokkchaaDoorFrRcv
namespace Go.Proofs.YthoikljmokkchaaDoor
open Go.RowKit
structure WM where
  s : Sd
  r : Rv
  fs : List Fr
  rp : List Rp
  gt : List (List Nat)
def arriveM (m : WM) (f : Fr) : WM := ⟨m.s, (recvM m.r f).1, m.fs, m.rp, m.gt ++ (recvM m.r f).2.1⟩
def zRp : Rp := ⟨0, 0, 0, false⟩
def emitQ (m : WM) (a : AC) : Int := m.s.a + around a.n 18
def actM (m : WM) (a : AC) : WM :=
  if around a.kd 6 = 0 then ⟨⟨m.s.bs ++ [a.b.take 20], m.s.a, m.s.l⟩, m.r, m.fs, m.rp, m.gt⟩
  else if around a.kd 6 = 1 ∨ around a.kd 6 = 2 then
    (if (emitM m.s (emitQ m a)).2.2 = 0 then ⟨(emitM m.s (emitQ m a)).2.1, m.r, m.fs ++ [(emitM m.s (emitQ m a)).1], m.rp, m.gt⟩ else m)
  else if around a.kd 6 = 3 then (if 0 < m.fs.length then arriveM m (m.fs.getD (around a.n m.fs.length).toNat zFr) else m)
  else if around a.kd 6 = 4 then ⟨m.s, m.r, m.fs, m.rp ++ [stateM m.r], m.gt⟩
  else (if 0 < m.rp.length then ⟨confirmM m.s (m.rp.getD (around a.n m.rp.length).toNat zRp), m.r, m.fs, m.rp, m.gt⟩ else m)
structure RpOk (r : Rv) (p : Rp) : Prop where
  n0 : 0 ≤ p.nx
  n1 : p.nx ≤ r.nx
  k1 : p.ky ≤ r.l.i
/-- what holds in a history of n acts -/
structure WInv (key : Nat) (m : WM) (n : Nat) : Prop where
  r : RInv key m.s.bs m.r m.s.l.i
  l : Keyed key m.s.l
  li : m.s.l.i ≤ n
  a0 : 0 ≤ m.s.a
  a1 : m.s.a ≤ m.r.nx
  bn : m.s.bs.length ≤ n
  bl : ∀ x ∈ m.s.bs, x.length ≤ 512
  fn : m.fs.length ≤ n
  f : ∀ x ∈ m.fs, FGood key m.s.bs x m.s.l.i ∧ x.q ≤ m.r.nx + 15
  rn : m.rp.length ≤ n
  p : ∀ x ∈ m.rp, RpOk m.r x
  g : m.gt = m.s.bs.take m.r.nx.toNat
def beginM (key : Nat) : WM := ⟨⟨[], 0, ⟨key, 0⟩⟩, ⟨0, [], false, ⟨key, 0⟩⟩, [], [], []⟩
theorem keyedz (key : Nat) : Keyed key ⟨key, 0⟩ := ⟨Int.le_refl _, rfl⟩
theorem winv_begin (key : Nat) : WInv key (beginM key) 0 := by
  refine ⟨⟨rfl, Int.le_refl _, by simp [beginM], keyedz key, Int.le_refl _, fun x h => (by cases h), List.Pairwise.nil⟩, keyedz key, Int.le_refl _, Int.le_refl _, Int.le_refl _, Nat.le_refl _, fun x h => (by cases h), Nat.le_refl _, fun x h => (by cases h), Nat.le_refl _, fun x h => (by cases h), rfl⟩
theorem emitM_cases (s : Sd) (q : Int) : (∃ e, e ≠ 0 ∧ emitM s q = (zFr, zSd, e)) ∨ (0 ≤ q ∧ q < s.bs.length ∧ s.a ≤ q ∧ q < s.a + 16 ∧ emitM s q = (signF s.l ⟨q, 0, false, s.bs.getD q.toNat [], 0⟩, ⟨s.bs, s.a, nextL s.l⟩, 0)) := by
  unfold emitM
  split
  · exact .inl ⟨5, by omega, rfl⟩
  · split
    · exact .inl ⟨32, by omega, rfl⟩
    · exact .inr ⟨by omega, by omega, by omega, by omega, rfl⟩
theorem getD_mem {α : Type} {l : List α} {k : Nat} (d : α) (h : k < l.length) : l.getD k d ∈ l := by
  rw [List.getD, List.getElem?_eq_getElem h]; exact List.getElem_mem h
/-- the frame that was made carries the body -/
theorem emit_good {key : Nat} {s : Sd} {q : Int} (hl : Keyed key s.l) (hb : ∀ x ∈ s.bs, x.length ≤ 512) (h0 : 0 ≤ q) (h1 : q < s.bs.length) :
    FGood key s.bs (signF s.l ⟨q, 0, false, s.bs.getD q.toNat [], 0⟩) (nextL s.l).i := by
  refine ⟨made_sign hl _, ?_, rfl, h0, h1, rfl, hb _ (getD_mem [] (by omega))⟩
  show s.l.i < s.l.i + 1; omega
theorem conf_same {l : Ld} {ky : Int} (h : ky ≤ l.i) : confL l ky = l := by
  unfold confL
  rw [show (ky - l.i).toNat = 0 by omega]
  cases l; simp [iterN]
theorem take_app {α : Type} (l m : List α) {n : Nat} (h : n ≤ l.length) : (l ++ m).take n = l.take n := by
  rw [List.take_append_of_le_length h]
theorem Arr.winv {key : Nat} {m : WM} {n : Nat} {f : Fr} (h : WInv key m n) {ok : Prop} (ha : Arr key m.s.bs m.s.l.i m.r (recvM m.r f).1 f.q (recvM m.r f).2.1 ok) : WInv key (arriveM m f) n := by
  have hn := ha.nx
  refine ⟨ha.inv, h.l, h.li, h.a0, Int.le_trans h.a1 hn, h.bn, h.bl, h.fn, fun x hx => ?_, h.rn, fun x hx => ?_, ?_⟩
  · obtain ⟨g1, g2⟩ := h.f x hx
    exact ⟨g1, by show x.q ≤ (recvM m.r f).1.nx + 15; omega⟩
  · obtain ⟨g1, g2, g3⟩ := h.p x hx
    have := ha.li
    exact ⟨g1, by show x.nx ≤ (recvM m.r f).1.nx; omega, by show x.ky ≤ (recvM m.r f).1.l.i; omega⟩
  · show m.gt ++ _ = _
    rw [h.g]; exact ha.got
theorem winv_confirm {key : Nat} {m : WM} {n : Nat} {p : Rp} (h : WInv key m n) (hp : RpOk m.r p) : WInv key ⟨confirmM m.s p, m.r, m.fs, m.rp, m.gt⟩ n := by
  have hk : confL m.s.l p.ky = m.s.l := conf_same (by have := hp.k1; have := h.r.ki; omega)
  have hb := hp.n1; have ha := h.a1; have ha0 := h.a0; have hp0 := hp.n0
  have e : confirmM m.s p = ⟨m.s.bs, ackN m.s.a p.nx m.s.bs.length, m.s.l⟩ := by unfold confirmM; rw [hk]
  rw [e]
  exact ⟨h.r, h.l, h.li, by show 0 ≤ ackN _ _ _; unfold ackN; omega, by show ackN _ _ _ ≤ m.r.nx; unfold ackN; omega, h.bn, h.bl, h.fn, h.f, h.rn, h.p, h.g⟩
theorem winv_mono {key : Nat} {m : WM} {n k : Nat} (h : WInv key m n) (hk : n ≤ k) : WInv key m k := ⟨h.r, h.l, by have := h.li; omega, h.a0, h.a1, by have := h.bn; omega, h.bl, by have := h.fn; omega, h.f, by have := h.rn; omega, h.p, h.g⟩
theorem winv_queue {key : Nat} {m : WM} {n : Nat} (h : WInv key m n) {b : List Nat} (hb : b.length ≤ 512) : WInv key ⟨⟨m.s.bs ++ [b], m.s.a, m.s.l⟩, m.r, m.fs, m.rp, m.gt⟩ (n + 1) := by
  have h1 := h.r.n1; have h0 := h.r.n0
  refine ⟨h.r.bs, h.l, by have := h.li; show m.s.l.i ≤ _; push_cast; omega, h.a0, h.a1, by have := h.bn; show (m.s.bs ++ [b]).length ≤ _; rw [List.length_append]; simp; omega, fun x hx => ?_, by have := h.fn; show m.fs.length ≤ _; omega, fun x hx => ⟨(h.f x hx).1.bs, (h.f x hx).2⟩, by have := h.rn; show m.rp.length ≤ _; omega, h.p, ?_⟩
  · rcases List.mem_append.1 hx with hx | hx
    · exact h.bl x hx
    · rw [List.mem_singleton.1 hx]; exact hb
  · show m.gt = (m.s.bs ++ [b]).take m.r.nx.toNat
    rw [take_app _ _ (by omega)]; exact h.g
theorem winv_act {key : Nat} {m : WM} {n : Nat} {a : AC} (h : WInv key m n) (hn : n ≤ 120) : WInv key (actM m a) (n + 1) := by
  have hn0 := h.r.n0; have hn1 := h.r.n1; have hbn := h.bn
  unfold actM
  split
  · exact winv_queue h (by rw [List.length_take]; omega)
  · split
    · rcases emitM_cases m.s (emitQ m a) with ⟨e, he, hem⟩ | ⟨h0, h1, h2, h3, hem⟩
      · rw [hem, if_neg he]; exact winv_mono h (by omega)
      · rw [hem, if_pos rfl]
        have hm : m.s.l.i ≤ (nextL m.s.l).i := by show m.s.l.i ≤ m.s.l.i + 1; omega
        refine ⟨h.r.mono hm, h.l.next, by have := h.li; show m.s.l.i + 1 ≤ _; push_cast; omega, h.a0, h.a1, by show m.s.bs.length ≤ _; omega, h.bl, by have := h.fn; show (m.fs ++ [_]).length ≤ _; rw [List.length_append]; simp; omega, fun x hx => ?_, by have := h.rn; show m.rp.length ≤ _; omega, h.p, h.g⟩
        rcases List.mem_append.1 hx with hx | hx
        · exact ⟨(h.f x hx).1.mono hm, (h.f x hx).2⟩
        · rw [List.mem_singleton.1 hx]
          exact ⟨emit_good h.l h.bl h0 h1, by have := h.a1; show emitQ m a ≤ m.r.nx + 15; omega⟩
    · split
      · split
        · rename_i hf
          have hb := around_b a.n (most := (m.fs.length : Int)) (by omega)
          obtain ⟨g1, g2⟩ := h.f _ (getD_mem zFr (show (around a.n m.fs.length).toNat < m.fs.length by omega))
          obtain ⟨hA, _, _⟩ := recv_good h.r g1 (by have := g1.q0; omega) g2
          exact winv_mono (hA.winv h) (by omega)
        · exact winv_mono h (by omega)
      · split
        · refine ⟨h.r, h.l, by have := h.li; push_cast; omega, h.a0, h.a1, by show m.s.bs.length ≤ _; omega, h.bl, by have := h.fn; show m.fs.length ≤ _; omega, h.f, by have := h.rn; show (m.rp ++ [_]).length ≤ _; rw [List.length_append]; simp; omega, fun x hx => ?_, h.g⟩
          rcases List.mem_append.1 hx with hx | hx
          · exact h.p x hx
          · rw [List.mem_singleton.1 hx]
            exact ⟨hn0, Int.le_refl _, Int.le_refl _⟩
        · split
          · rename_i hr
            have hb := around_b a.n (most := (m.rp.length : Int)) (by omega)
            exact winv_mono (winv_confirm h (h.p _ (getD_mem zRp (show (around a.n m.rp.length).toNat < m.rp.length by omega)))) (by omega)
          · exact winv_mono h (by omega)
end Go.Proofs.YthoikljmokkchaaDoor
namespace Go.Proofs.YthoikljmokkchaaDoor
open Go.RowKit
theorem recv_top {r : Rv} {f : Fr} {T : Int} (h1 : r.nx ≤ T + 1) (h2 : ∀ x ∈ r.fs, x.q ≤ T) (hq : f.q ≤ T) (hr1 : r.nx - 128 ≤ f.q) (hr2 : f.q ≤ r.nx + 15) (hu : f.u = false) :
    (recvM r f).1.nx ≤ T + 1 ∧ ∀ x ∈ (recvM r f).1.fs, x.q ≤ T := by
  have hd := distM_cast f.q r.nx
  have hdl := distM_lt f.q r.nx
  unfold recvM
  split
  · exact ⟨h1, h2⟩
  · split
    · exact ⟨h1, h2⟩
    · unfold recv2
      rw [hu]
      simp only [Bool.false_eq_true, if_false]
      split
      · exact ⟨h1, h2⟩
      · split
        · unfold delivM
          refine ⟨?_, fun x hx => h2 x (List.mem_of_mem_drop hx)⟩
          show r.nx + 1 + _ ≤ _
          have hl := dlvN_le r.fs (r.nx + 1)
          rcases Nat.eq_zero_or_pos (dlvN (r.nx + 1) r.fs) with h0 | h0
          · rw [h0]; push_cast; omega
          · have hlt : dlvN (r.nx + 1) r.fs - 1 < r.fs.length := by omega
            have h3 := dlvN_in r.fs (r.nx + 1) (dlvN (r.nx + 1) r.fs - 1) _ (by omega) (List.getElem?_eq_getElem hlt)
            have h4 := h2 _ (List.getElem_mem hlt)
            omega
        · split
          · refine ⟨h1, fun x hx => ?_⟩
            rcases insM_mem hx with rfl | hx
            · show r.nx + _ ≤ _; omega
            · exact h2 x hx
          · split
            · exact ⟨h1, h2⟩
            · exact ⟨h1, h2⟩
def roundStep (m : WM) (q : Int) : WM := arriveM ⟨(emitM m.s q).2.1, m.r, m.fs, m.rp, m.gt⟩ (emitM m.s q).1
def roundS (m : WM) : WM := ⟨confirmM m.s (stateM m.r), m.r, m.fs, m.rp, m.gt⟩
def roundL (m : WM) : List Int := missM (roundS m).s (stateM m.r)
def roundAt (m : WM) (i : Nat) : WM := ((roundL m).take i).foldl roundStep (roundS m)
def roundM (m : WM) : WM := (roundL m).foldl roundStep (roundS m)
theorem state_ok (r : Rv) (h : 0 ≤ r.nx) : RpOk r (stateM r) := ⟨h, Int.le_refl _, Int.le_refl _⟩
theorem winv_roundS {key : Nat} {m : WM} {n : Nat} (h : WInv key m n) : WInv key (roundS m) n := winv_confirm h (state_ok _ h.r.n0)
theorem roundS_a {key : Nat} {m : WM} {n : Nat} (h : WInv key m n) : (roundS m).s.a = m.r.nx := by
  have h1 := h.r.n1; have h2 := h.a1
  show ackN m.s.a m.r.nx m.s.bs.length = _
  unfold ackN; omega
theorem roundL_eq {key : Nat} {m : WM} {n : Nat} (h : WInv key m n) : roundL m = misI m.r.nx (havI m.r.nx m.r.fs) m.r.nx (min (m.r.nx + 16) (m.s.bs.length : Int) - m.r.nx).toNat := by
  have hlk := h.r.lk
  have ha := roundS_a h
  unfold roundL missM
  show (if m.r.lk then [] else _) = _
  rw [hlk, ha]
  simp only [Bool.false_eq_true, if_false]
  show misI m.r.nx _ (max m.r.nx m.r.nx) (min (max m.r.nx m.r.nx + 16) _ - max m.r.nx m.r.nx).toNat = _
  rw [Int.max_self]; rfl
theorem roundL_mem {key : Nat} {m : WM} {n : Nat} (h : WInv key m n) {q : Int} : q ∈ roundL m ↔ m.r.nx ≤ q ∧ q < m.r.nx + 16 ∧ q < m.s.bs.length ∧ ¬ ∃ x ∈ m.r.fs, x.q = q := by
  have h1 := h.r.n1
  rw [roundL_eq h, misI_mem, ← Bool.not_eq_true, hasI_knows (fun x hx => by obtain ⟨g1, g2, _⟩ := h.r.fs x hx; exact ⟨g1, by omega⟩)]
  constructor
  · rintro ⟨g1, g2, g3⟩; exact ⟨g1, by omega, by omega, g3⟩
  · rintro ⟨g1, g2, g3, g4⟩; exact ⟨g1, by omega, g4⟩
structure RS (key : Nat) (m0 m : WM) (n : Nat) (done : List Int) : Prop where
  w : WInv key m n
  bs : m.s.bs = m0.s.bs
  a : m.s.a = m0.r.nx
  nx : m0.r.nx ≤ m.r.nx
  top : m.r.nx ≤ m0.r.nx + 16
  tops : ∀ x ∈ m.r.fs, x.q ≤ m0.r.nx + 15
  old : ∀ p, Knows m0.r p → Knows m.r p
  new : ∀ q ∈ done, Knows m.r q
theorem rs_emit {key : Nat} {m0 m : WM} {n : Nat} {done : List Int} (h : RS key m0 m n done) {q : Int} (h1 : m0.r.nx ≤ q) (h2 : q < m0.r.nx + 16) (h3 : q < m0.s.bs.length) :
    emitM m.s q = (signF m.s.l ⟨q, 0, false, m.s.bs.getD q.toNat [], 0⟩, ⟨m.s.bs, m.s.a, nextL m.s.l⟩, 0) := by
  have hb := h.bs; have ha := h.a; have h0 := h.w.r.n0; have hnx := h.nx; have ha0 := h.w.a0
  unfold emitM
  rw [if_neg (by rw [hb]; omega), if_neg (by omega)]
theorem winv_emit {key : Nat} {m : WM} {n : Nat} (h : WInv key m n) : WInv key ⟨⟨m.s.bs, m.s.a, nextL m.s.l⟩, m.r, m.fs, m.rp, m.gt⟩ (n + 1) := by
  have hm : m.s.l.i ≤ (nextL m.s.l).i := by show m.s.l.i ≤ m.s.l.i + 1; omega
  exact ⟨h.r.mono hm, h.l.next, by have := h.li; show m.s.l.i + 1 ≤ _; push_cast; omega, h.a0, h.a1, by have := h.bn; show m.s.bs.length ≤ _; omega, h.bl, by have := h.fn; show m.fs.length ≤ _; omega, fun x hx => ⟨(h.f x hx).1.mono hm, (h.f x hx).2⟩, by have := h.rn; show m.rp.length ≤ _; omega, h.p, h.g⟩
theorem rs_step {key : Nat} {m0 m : WM} {n : Nat} {done : List Int} (h : RS key m0 m n done) (hn : n ≤ 4000) {q : Int} (h1 : m0.r.nx ≤ q) (h2 : q < m0.r.nx + 16) (h3 : q < m0.s.bs.length) :
    RS key m0 (roundStep m q) (n + 1) (done ++ [q]) ∧ (recvM m.r (emitM m.s q).1).2.2 = 0 := by
  have he := rs_emit h h1 h2 h3
  have hb := h.bs; have ha := h.a; have h0 := h.w.r.n0; have hnx := h.nx; have htop := h.top
  have hg := emit_good (q := q) h.w.l h.w.bl (by have := h.w.a0; omega) (by rw [hb]; exact h3)
  have hwe := winv_emit h.w
  unfold roundStep
  rw [he]
  simp only []
  generalize hf : signF m.s.l ⟨q, 0, false, m.s.bs.getD q.toNat [], 0⟩ = f at *
  have hfq : f.q = q := by rw [← hf]; rfl
  have hfk : f.k = m.s.l.i := by rw [← hf]; rfl
  have hfu : f.u = false := by rw [← hf]; rfl
  have hki := h.w.r.ki; have hkd := h.w.r.kd.1; have hli := h.w.li
  obtain ⟨hA, her, _⟩ := recv_good hwe.r hg (by show m.r.nx - 128 ≤ _; omega) (by show _ ≤ m.r.nx + 15; omega)
  obtain ⟨t1, t2⟩ := recv_top (r := m.r) (f := f) (T := m0.r.nx + 15) (by omega) h.tops (by omega) (by omega) (by omega) hfu
  have hw := hA.winv hwe
  have hok : m.r.l.i ≤ f.k ∧ f.k ≤ m.r.l.i + 4096 := by omega
  refine ⟨⟨hw, hb, ha, Int.le_trans hnx hA.nx, by show (recvM m.r f).1.nx ≤ _; omega, t2, fun p hp => hA.old p (h.old p hp), fun p hp => ?_⟩, ?_⟩
  · rcases List.mem_append.1 hp with hp | hp
    · exact hA.old p (h.new p hp)
    · rw [List.mem_singleton.1 hp, ← hfq]; exact hA.new hok
  · rcases her with h8 | h8
    · exact h8
    · exfalso
      have hl : f.b.length ≤ 512 := hg.l
      have hx : (recvM m.r f).2.2 = 30 := h8
      unfold recvM at hx
      rw [if_neg (by omega)] at hx
      rcases accept_made h.w.r.kd hg.md with ⟨_, hk⟩ | ⟨hac, _⟩
      · omega
      · rw [hac] at hx
        simp only [ne_eq, not_true_eq_false, if_false] at hx
        unfold recv2 delivM at hx
        rw [hfu] at hx
        simp only [Bool.false_eq_true, if_false] at hx
        split at hx
        · simp at hx
        · split at hx
          · simp at hx
          · split at hx
            · simp at hx
            · split at hx <;> simp at hx
theorem rs_start {key : Nat} {m : WM} {n : Nat} (h : WInv key m n) : RS key m (roundS m) n [] :=
  ⟨winv_roundS h, rfl, roundS_a h, Int.le_refl _, by show m.r.nx ≤ _; omega, fun x hx => (h.r.fs x hx).2.1, fun _ h => h, fun q hq => by cases hq⟩
theorem rs_at {key : Nat} {m : WM} {n : Nat} (h : WInv key m n) (hn : n ≤ 3900) : ∀ i, i ≤ (roundL m).length → i ≤ 60 → RS key m (roundAt m i) (n + i) ((roundL m).take i) := by
  intro i
  induction i with
  | zero => intro _ _; exact rs_start h
  | succ i ih =>
    intro hi hi2
    have hlt : i < (roundL m).length := hi
    have hm := (roundL_mem h).1 (List.getElem_mem hlt)
    have := (rs_step (ih (by omega) (by omega)) (by omega) hm.1 hm.2.1 hm.2.2.1).1
    unfold roundAt
    rw [List.take_add_one, List.getElem?_eq_getElem hlt, List.foldl_append]
    exact this
theorem roundL_len {key : Nat} {m : WM} {n : Nat} (h : WInv key m n) : (roundL m).length ≤ 16 := by
  rw [roundL_eq h]
  have := misI_len m.r.nx (havI m.r.nx m.r.fs) m.r.nx (min (m.r.nx + 16) (m.s.bs.length : Int) - m.r.nx).toNat
  omega
theorem roundAt_all (m : WM) : roundAt m (roundL m).length = roundM m := by unfold roundAt roundM; rw [List.take_length]
theorem round_law {key : Nat} {m : WM} {n : Nat} (h : WInv key m n) (hn : n ≤ 3900) : WInv key (roundM m) (n + 16) ∧ (roundM m).s.bs = m.s.bs ∧ min (m.r.nx + 16) (m.s.bs.length : Int) ≤ (roundM m).r.nx := by
  have hl := roundL_len h
  have hr := rs_at h hn _ (Nat.le_refl _) (by omega)
  rw [roundAt_all, List.take_length] at hr
  refine ⟨winv_mono hr.w (by omega), hr.bs, ?_⟩
  rcases Int.lt_or_le (roundM m).r.nx (min (m.r.nx + 16) (m.s.bs.length : Int)) with hlt | hge
  · exfalso
    have hnx := hr.nx
    have hk : Knows (roundM m).r (roundM m).r.nx := by
      by_cases hx : ∃ x ∈ m.r.fs, x.q = (roundM m).r.nx
      · exact hr.old _ (.inr hx)
      · exact hr.new _ ((roundL_mem h).2 ⟨hnx, by omega, by omega, hx⟩)
    rcases hk with hk | ⟨x, hx, e⟩
    · omega
    · have := (hr.w.r.fs x hx).1; omega
  · exact hge
theorem round_emit {key : Nat} {m : WM} {n : Nat} (h : WInv key m n) (hn : n ≤ 3900) {i : Nat} {q : Int} (hq : (roundL m)[i]? = some q) :
    emitM (roundAt m i).s q = (signF (roundAt m i).s.l ⟨q, 0, false, (roundAt m i).s.bs.getD q.toNat [], 0⟩, ⟨(roundAt m i).s.bs, (roundAt m i).s.a, nextL (roundAt m i).s.l⟩, 0) ∧ roundAt m (i + 1) = roundStep (roundAt m i) q := by
  have hi := (List.getElem?_eq_some_iff.1 hq).1
  have hl := roundL_len h
  have hm := (roundL_mem h).1 (List.mem_of_getElem? hq)
  refine ⟨rs_emit (rs_at h hn i (by omega) (by omega)) hm.1 hm.2.1 hm.2.2.1, ?_⟩
  unfold roundAt
  rw [List.take_add_one, hq, List.foldl_append]; rfl
/-- rounds, one after the other -/
def roundsM (m : WM) : Nat → WM
  | 0 => m
  | k + 1 => roundM (roundsM m k)
theorem rounds_law {key : Nat} {m : WM} {n : Nat} (h : WInv key m n) : ∀ k, n + 16 * k ≤ 3900 → WInv key (roundsM m k) (n + 16 * k) ∧ (roundsM m k).s.bs = m.s.bs ∧ min (m.r.nx + 16 * (k : Int)) (m.s.bs.length : Int) ≤ (roundsM m k).r.nx := by
  intro k
  induction k with
  | zero => intro _; exact ⟨h, rfl, by show _ ≤ m.r.nx; push_cast; omega⟩
  | succ k ih =>
    intro hk
    obtain ⟨h1, h2, h3⟩ := ih (by omega)
    obtain ⟨g1, g2, g3⟩ := round_law h1 (by omega)
    refine ⟨winv_mono g1 (by omega), g2.trans h2, ?_⟩
    show _ ≤ (roundM (roundsM m k)).r.nx
    rw [h2] at g3
    push_cast; omega
theorem winv_end {key : Nat} {m : WM} {n : Nat} (h : WInv key m n) (he : (m.s.bs.length : Int) ≤ m.r.nx) : m.r.nx = m.s.bs.length ∧ m.r.fs = [] ∧ m.gt = m.s.bs ∧ roundL m = [] ∧ missM m.s (stateM m.r) = [] := by
  have h1 := h.r.n1
  have e : m.r.nx = m.s.bs.length := by omega
  have hfs : m.r.fs = [] := by
    cases hc : m.r.fs with
    | nil => rfl
    | cons x l => exfalso; obtain ⟨g1, _, g3, _⟩ := h.r.fs x (by rw [hc]; exact List.mem_cons_self); omega
  refine ⟨e, hfs, by rw [h.g, List.take_of_length_le (by omega)], ?_, ?_⟩
  · cases hc : roundL m with
    | nil => rfl
    | cons q l => exfalso; have := (roundL_mem h (q := q)).1 (by rw [hc]; exact List.mem_cons_self); omega
  · have ha := h.a1
    unfold missM
    split
    · rfl
    · show misI _ _ _ (min (max m.s.a m.r.nx + 16) _ - max m.s.a m.r.nx).toNat = []
      rw [show (min (max m.s.a m.r.nx + 16) (m.s.bs.length : Int) - max m.s.a m.r.nx).toNat = 0 by omega]; rfl
end Go.Proofs.YthoikljmokkchaaDoor
namespace Go.Proofs.YthoikljmokkchaaDoor
open Go.RowKit
theorem keyed_next {key : Nat} {l : Ld} (h : Keyed key l) : (⟨iterN (l.i + 1).toNat key, l.i + 1⟩ : Ld) = nextL l := by
  have := h.next.2
  unfold nextL at this ⊢
  simp only [] at this
  rw [← this]
theorem acc_made {key : Nat} {r : Rv} {l : Ld} {f : Fr} (hr : Keyed key r.l) (hl : Keyed key l) (hf : Made key f) (hk : f.k = l.i) (h1 : r.l.i ≤ l.i) (h2 : l.i ≤ r.l.i + 4096) : acceptL r.l f.k (covL f) f.t = (nextL l, 0) := by
  rcases accept_made hr hf with ⟨_, h⟩ | ⟨h, _⟩
  · omega
  · rw [h, hk, keyed_next hl]
def farF (m : WM) (far : Int) : Fr := signF (roundS m).s.l ⟨m.r.nx + 16 + around far 112, 0, false, [], 0⟩
def far2F (m : WM) (far : Int) : Fr := signF (nextL (roundS m).s.l) ⟨m.r.nx + 16 + around far 112, 0, false, [], 0⟩
def unlF (m : WM) (far : Int) : Fr := signF (nextL (nextL (roundS m).s.l)) ⟨m.r.nx - around far 3, 0, true, [], 0⟩
theorem roundS_l {key : Nat} {m : WM} {n : Nat} (h : WInv key m n) : (roundS m).s.l = m.s.l := conf_same (by show m.r.l.i ≤ _; exact h.r.ki)
def lockR (m : WM) : Rv := ⟨m.r.nx, m.r.fs, true, nextL m.s.l⟩
theorem far_recv {key : Nat} {m : WM} {n : Nat} (h : WInv key m n) (hn : n ≤ 4000) (far : Int) : recvM m.r (farF m far) = (lockR m, [], 32) := by
  have hb := around_b far (most := 112) (by omega)
  have hki := h.r.ki; have hli := h.li; have hk0 := h.r.kd.1; have hlk := h.r.lk
  have hd : distM (farF m far).q m.r.nx = (16 + around far 112).toNat := by
    have := distM_cast (farF m far).q m.r.nx
    have e : (farF m far).q = m.r.nx + 16 + around far 112 := rfl
    rw [e] at this ⊢
    omega
  have hL := roundS_l h
  unfold recvM
  rw [if_neg (by show ¬ 512 < ([] : List Nat).length; simp), acc_made h.r.kd h.l (by unfold farF; rw [hL]; exact made_sign h.l _) (by unfold farF; rw [hL]; rfl) hki (by omega)]
  simp only [ne_eq, not_true_eq_false, if_false]
  rw [recv2_far rfl hlk (by omega) (by omega)]
  rfl
theorem far2_recv {key : Nat} {m : WM} {n : Nat} (h : WInv key m n) (hn : n ≤ 4000) (far : Int) : recvM (lockR m) (far2F m far) = (⟨m.r.nx, m.r.fs, true, nextL (nextL m.s.l)⟩, [], 31) := by
  have hL := roundS_l h
  unfold recvM
  rw [if_neg (by show ¬ 512 < ([] : List Nat).length; simp), acc_made (r := lockR m) h.l.next h.l.next (by unfold far2F; rw [hL]; exact made_sign h.l.next _) (by unfold far2F; rw [hL]; rfl) (Int.le_refl _) (by show (nextL m.s.l).i ≤ (nextL m.s.l).i + 4096; omega)]
  simp only [ne_eq, not_true_eq_false, if_false]
  rw [recv2_lock rfl rfl]
  rfl
theorem unl_recv {key : Nat} {m : WM} {n : Nat} (h : WInv key m n) (hn : n ≤ 4000) (far : Int) : recvM ⟨m.r.nx, m.r.fs, true, nextL (nextL m.s.l)⟩ (unlF m far) = (⟨m.r.nx, [], false, nextL (nextL (nextL m.s.l))⟩, [], 0) := by
  have hb := around_b far (most := 3) (by omega)
  have hL := roundS_l h
  have hd := distM_cast (unlF m far).q m.r.nx
  have e : (unlF m far).q = m.r.nx - around far 3 := rfl
  unfold recvM
  rw [if_neg (by show ¬ 512 < ([] : List Nat).length; simp), acc_made (r := ⟨m.r.nx, m.r.fs, true, nextL (nextL m.s.l)⟩) h.l.next.next h.l.next.next (by unfold unlF; rw [hL]; exact made_sign h.l.next.next _) (by unfold unlF; rw [hL]; rfl) (Int.le_refl _) (by show (nextL (nextL m.s.l)).i ≤ (nextL (nextL m.s.l)).i + 4096; omega)]
  simp only [ne_eq, not_true_eq_false, if_false]
  rw [e] at hd
  by_cases h0 : 128 ≤ distM (unlF m far).q m.r.nx
  · rw [recv2_uold (r := ⟨m.r.nx, m.r.fs, true, nextL (nextL m.s.l)⟩) rfl h0]
  · rw [recv2_unew (r := ⟨m.r.nx, m.r.fs, true, nextL (nextL m.s.l)⟩) rfl (by show distM (unlF m far).q m.r.nx < 128; omega)]
    rw [e] at h0 ⊢
    have : (distM (m.r.nx - around far 3) m.r.nx : Int) = 0 := by omega
    simp only [this, Int.add_zero]
/-- the world behind the unlock frame -/
def unlW (m : WM) : WM := ⟨⟨m.s.bs, m.r.nx, nextL (nextL (nextL m.s.l))⟩, ⟨m.r.nx, [], false, nextL (nextL (nextL m.s.l))⟩, m.fs, m.rp, m.gt⟩
theorem unl_winv {key : Nat} {m : WM} {n : Nat} (h : WInv key m n) : WInv key (unlW m) (n + 3) := by
  have hli := h.li; have h0 := h.r.n0; have hki := h.r.ki
  have hm : m.s.l.i ≤ (nextL (nextL (nextL m.s.l))).i := by show m.s.l.i ≤ m.s.l.i + 1 + 1 + 1; omega
  exact ⟨⟨rfl, h0, h.r.n1, h.l.next.next.next, Int.le_refl _, fun x hx => (by cases hx), List.Pairwise.nil⟩, h.l.next.next.next, by show m.s.l.i + 1 + 1 + 1 ≤ _; push_cast; omega, h0, Int.le_refl _, by have := h.bn; show m.s.bs.length ≤ _; omega, h.bl, by have := h.fn; show m.fs.length ≤ _; omega, fun x hx => ⟨(h.f x hx).1.mono hm, (h.f x hx).2⟩, by have := h.rn; show m.rp.length ≤ _; omega, fun x hx => by obtain ⟨g1, g2, g3⟩ := h.p x hx; exact ⟨g1, g2, by show x.ky ≤ m.s.l.i + 1 + 1 + 1; omega⟩, h.g⟩
/-- the frame that FrameForged emits -/
def forgS (m : WM) : WM := ⟨confirmM ⟨m.s.bs ++ [[120]], m.s.a, m.s.l⟩ (stateM m.r), m.r, m.fs, m.rp, m.gt⟩
def forgF (m : WM) : Fr := signF m.s.l ⟨m.r.nx, 0, false, (m.s.bs ++ [[120]]).getD m.r.nx.toNat [], 0⟩
theorem forg_winv {key : Nat} {m : WM} {n : Nat} (h : WInv key m n) : WInv key (forgS m) (n + 1) := by
  have h1 := winv_queue h (b := [120]) (by simp)
  exact winv_confirm h1 (state_ok m.r h.r.n0)
theorem forg_s {key : Nat} {m : WM} {n : Nat} (h : WInv key m n) : (forgS m).s = ⟨m.s.bs ++ [[120]], m.r.nx, m.s.l⟩ := by
  have h1 := h.r.n1; have h2 := h.a1
  show (⟨m.s.bs ++ [[120]], ackN m.s.a m.r.nx (m.s.bs ++ [[120]]).length, confL m.s.l m.r.l.i⟩ : Sd) = _
  rw [conf_same h.r.ki]
  unfold ackN
  rw [List.length_append]
  simp only [List.length_singleton]
  congr 1; push_cast; omega
theorem forg_emit {key : Nat} {m : WM} {n : Nat} (h : WInv key m n) : emitM (forgS m).s m.r.nx = (forgF m, ⟨m.s.bs ++ [[120]], m.r.nx, nextL m.s.l⟩, 0) := by
  have h1 := h.r.n1; have h0 := h.r.n0
  rw [forg_s h]
  unfold emitM
  rw [if_neg (by rw [List.length_append]; simp only [List.length_singleton]; push_cast; omega), if_neg (by show ¬ (m.r.nx < m.r.nx ∨ m.r.nx + 16 ≤ m.r.nx); omega)]
  rfl
theorem forg_len {key : Nat} {m : WM} {n : Nat} (h : WInv key m n) : (forgF m).b.length ≤ 512 := by
  have h1 := h.r.n1; have h0 := h.r.n0
  exact (forg_winv h).bl _ (by rw [forg_s h]; exact getD_mem [] (by rw [List.length_append]; simp only [List.length_singleton]; omega))
theorem forg_recv {key : Nat} {m : WM} {n : Nat} (h : WInv key m n) (hn : n ≤ 4000) {tag : Nat} (ht : tag ≠ (forgF m).t) : recvM m.r ⟨(forgF m).q, (forgF m).k, (forgF m).u, (forgF m).b, tag⟩ = (m.r, [], 8) := by
  have hki := h.r.ki; have hli := h.li; have hk0 := h.r.kd.1
  have hl := forg_len h
  have hf : Made key (forgF m) := made_sign h.l _
  unfold recvM
  rw [if_neg (by show ¬ 512 < (forgF m).b.length; omega)]
  have hk : (forgF m).k = m.s.l.i := rfl
  have hnk : ¬ ((forgF m).k < m.r.l.i ∨ m.r.l.i + 4096 < (forgF m).k) := by omega
  have ec : covL ⟨(forgF m).q, (forgF m).k, (forgF m).u, (forgF m).b, tag⟩ = covL (forgF m) := rfl
  rw [ec]
  have e : tagN (iterN ((forgF m).k - m.r.l.i).toNat m.r.l.k) (covL (forgF m)) = (forgF m).t := by
    rw [hf.2, h.r.kd.2, iterN_add]
    congr 2; omega
  rw [accept_sum hnk (by rw [e]; exact fun h => ht h.symm), if_pos (by simp)]
end Go.Proofs.YthoikljmokkchaaDoor
