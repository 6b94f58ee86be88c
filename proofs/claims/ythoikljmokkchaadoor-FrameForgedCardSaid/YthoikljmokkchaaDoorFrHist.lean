/- Frames: FrPE, FrPF, FrPG: walks and plain facts. -/
import Derived.Test.YthoikljmokkchaaDoorFrPlain
import Derived.Test.YthoikljmokkchaaDoorFrZ
import Derived.Test.YthoikljmokkchaaDoorFrRcv
namespace Go.Proofs.YthoikljmokkchaaDoor
open Go.RowKit
structure WM where
  s : Sd
  r : Rv
  fs : List Fr
  rp : List Rp
  gt : List (List Nat)
def arriveM (m : WM) (f : Fr) : WM := ⟨m.s, (recvM m.r f).1, m.fs, m.rp, m.gt ++ (recvM m.r f).2.1⟩
def zRp : Rp := ⟨0, 0, 0, false⟩
def emitQ (m : WM) (a : AC) : Int := m.s.a + around a.n 18
def actM (m : WM) (a : AC) : WM :=
  if around a.kd 6 = 0 then ⟨⟨m.s.bs ++ [a.b.take 20], m.s.a, m.s.l⟩, m.r, m.fs, m.rp, m.gt⟩
  else if around a.kd 6 = 1 ∨ around a.kd 6 = 2 then
    (if (emitM m.s (emitQ m a)).2.2 = 0 then ⟨(emitM m.s (emitQ m a)).2.1, m.r, m.fs ++ [(emitM m.s (emitQ m a)).1], m.rp, m.gt⟩ else m)
  else if around a.kd 6 = 3 then (if 0 < m.fs.length then arriveM m (m.fs.getD (around a.n m.fs.length).toNat zFr) else m)
  else if around a.kd 6 = 4 then ⟨m.s, m.r, m.fs, m.rp ++ [stateM m.r], m.gt⟩
  else (if 0 < m.rp.length then ⟨confirmM m.s (m.rp.getD (around a.n m.rp.length).toNat zRp), m.r, m.fs, m.rp, m.gt⟩ else m)
structure RpOk (r : Rv) (p : Rp) : Prop where
  n0 : 0 ≤ p.nx
  n1 : p.nx ≤ r.nx
  k1 : p.ky ≤ r.l.i
/-- what holds in a history of n acts -/
structure WInv (key : Nat) (m : WM) (n : Nat) : Prop where
  r : RInv key m.s.bs m.r m.s.l.i
  l : Keyed key m.s.l
  li : m.s.l.i ≤ n
  a0 : 0 ≤ m.s.a
  a1 : m.s.a ≤ m.r.nx
  bn : m.s.bs.length ≤ n
  bl : ∀ x ∈ m.s.bs, x.length ≤ 512
  fn : m.fs.length ≤ n
  f : ∀ x ∈ m.fs, FGood key m.s.bs x m.s.l.i ∧ x.q ≤ m.r.nx + 15
  rn : m.rp.length ≤ n
  p : ∀ x ∈ m.rp, RpOk m.r x
  g : m.gt = m.s.bs.take m.r.nx.toNat
def beginM (key : Nat) : WM := ⟨⟨[], 0, ⟨key, 0⟩⟩, ⟨0, [], false, ⟨key, 0⟩⟩, [], [], []⟩
theorem keyedz (key : Nat) : Keyed key ⟨key, 0⟩ := ⟨Int.le_refl _, rfl⟩
theorem winv_begin (key : Nat) : WInv key (beginM key) 0 := by
  refine ⟨⟨rfl, Int.le_refl _, by simp [beginM], keyedz key, Int.le_refl _, fun x h => (by cases h), List.Pairwise.nil⟩, keyedz key, Int.le_refl _, Int.le_refl _, Int.le_refl _, Nat.le_refl _, fun x h => (by cases h), Nat.le_refl _, fun x h => (by cases h), Nat.le_refl _, fun x h => (by cases h), rfl⟩
theorem emitM_cases (s : Sd) (q : Int) : (∃ e, e ≠ 0 ∧ emitM s q = (zFr, zSd, e)) ∨ (0 ≤ q ∧ q < s.bs.length ∧ s.a ≤ q ∧ q < s.a + 16 ∧ emitM s q = (signF s.l ⟨q, 0, false, s.bs.getD q.toNat [], 0⟩, ⟨s.bs, s.a, nextL s.l⟩, 0)) := by
  unfold emitM
  split
  · exact .inl ⟨5, by omega, rfl⟩
  · split
    · exact .inl ⟨32, by omega, rfl⟩
    · exact .inr ⟨by omega, by omega, by omega, by omega, rfl⟩
theorem getD_mem {α : Type} {l : List α} {k : Nat} (d : α) (h : k < l.length) : l.getD k d ∈ l := by
  rw [List.getD, List.getElem?_eq_getElem h]; exact List.getElem_mem h
/-- the frame that was made carries the body -/
theorem emit_good {key : Nat} {s : Sd} {q : Int} (hl : Keyed key s.l) (hb : ∀ x ∈ s.bs, x.length ≤ 512) (h0 : 0 ≤ q) (h1 : q < s.bs.length) :
    FGood key s.bs (signF s.l ⟨q, 0, false, s.bs.getD q.toNat [], 0⟩) (nextL s.l).i := by
  refine ⟨made_sign hl _, ?_, rfl, h0, h1, rfl, hb _ (getD_mem [] (by omega))⟩
  show s.l.i < s.l.i + 1; omega
theorem conf_same {l : Ld} {ky : Int} (h : ky ≤ l.i) : confL l ky = l := by
  unfold confL
  rw [show (ky - l.i).toNat = 0 by omega]
  cases l; simp [iterN]
theorem take_app {α : Type} (l m : List α) {n : Nat} (h : n ≤ l.length) : (l ++ m).take n = l.take n := by
  rw [List.take_append_of_le_length h]
theorem Arr.winv {key : Nat} {m : WM} {n : Nat} {f : Fr} (h : WInv key m n) {ok : Prop} (ha : Arr key m.s.bs m.s.l.i m.r (recvM m.r f).1 f.q (recvM m.r f).2.1 ok) : WInv key (arriveM m f) n := by
  have hn := ha.nx
  refine ⟨ha.inv, h.l, h.li, h.a0, Int.le_trans h.a1 hn, h.bn, h.bl, h.fn, fun x hx => ?_, h.rn, fun x hx => ?_, ?_⟩
  · obtain ⟨g1, g2⟩ := h.f x hx
    exact ⟨g1, by show x.q ≤ (recvM m.r f).1.nx + 15; omega⟩
  · obtain ⟨g1, g2, g3⟩ := h.p x hx
    have := ha.li
    exact ⟨g1, by show x.nx ≤ (recvM m.r f).1.nx; omega, by show x.ky ≤ (recvM m.r f).1.l.i; omega⟩
  · show m.gt ++ _ = _
    rw [h.g]; exact ha.got
theorem winv_confirm {key : Nat} {m : WM} {n : Nat} {p : Rp} (h : WInv key m n) (hp : RpOk m.r p) : WInv key ⟨confirmM m.s p, m.r, m.fs, m.rp, m.gt⟩ n := by
  have hk : confL m.s.l p.ky = m.s.l := conf_same (by have := hp.k1; have := h.r.ki; omega)
  have hb := hp.n1; have ha := h.a1; have ha0 := h.a0; have hp0 := hp.n0
  have e : confirmM m.s p = ⟨m.s.bs, ackN m.s.a p.nx m.s.bs.length, m.s.l⟩ := by unfold confirmM; rw [hk]
  rw [e]
  exact ⟨h.r, h.l, h.li, by show 0 ≤ ackN _ _ _; unfold ackN; omega, by show ackN _ _ _ ≤ m.r.nx; unfold ackN; omega, h.bn, h.bl, h.fn, h.f, h.rn, h.p, h.g⟩
theorem winv_mono {key : Nat} {m : WM} {n k : Nat} (h : WInv key m n) (hk : n ≤ k) : WInv key m k := ⟨h.r, h.l, by have := h.li; omega, h.a0, h.a1, by have := h.bn; omega, h.bl, by have := h.fn; omega, h.f, by have := h.rn; omega, h.p, h.g⟩
theorem winv_queue {key : Nat} {m : WM} {n : Nat} (h : WInv key m n) {b : List Nat} (hb : b.length ≤ 512) : WInv key ⟨⟨m.s.bs ++ [b], m.s.a, m.s.l⟩, m.r, m.fs, m.rp, m.gt⟩ (n + 1) := by
  have h1 := h.r.n1; have h0 := h.r.n0
  refine ⟨h.r.bs, h.l, by have := h.li; show m.s.l.i ≤ _; push_cast; omega, h.a0, h.a1, by have := h.bn; show (m.s.bs ++ [b]).length ≤ _; rw [List.length_append]; simp; omega, fun x hx => ?_, by have := h.fn; show m.fs.length ≤ _; omega, fun x hx => ⟨(h.f x hx).1.bs, (h.f x hx).2⟩, by have := h.rn; show m.rp.length ≤ _; omega, h.p, ?_⟩
  · rcases List.mem_append.1 hx with hx | hx
    · exact h.bl x hx
    · rw [List.mem_singleton.1 hx]; exact hb
  · show m.gt = (m.s.bs ++ [b]).take m.r.nx.toNat
    rw [take_app _ _ (by omega)]; exact h.g
theorem winv_act {key : Nat} {m : WM} {n : Nat} {a : AC} (h : WInv key m n) (hn : n ≤ 120) : WInv key (actM m a) (n + 1) := by
  have hn0 := h.r.n0; have hn1 := h.r.n1; have hbn := h.bn
  unfold actM
  split
  · exact winv_queue h (by rw [List.length_take]; omega)
  · split
    · rcases emitM_cases m.s (emitQ m a) with ⟨e, he, hem⟩ | ⟨h0, h1, h2, h3, hem⟩
      · rw [hem, if_neg he]; exact winv_mono h (by omega)
      · rw [hem, if_pos rfl]
        have hm : m.s.l.i ≤ (nextL m.s.l).i := by show m.s.l.i ≤ m.s.l.i + 1; omega
        refine ⟨h.r.mono hm, h.l.next, by have := h.li; show m.s.l.i + 1 ≤ _; push_cast; omega, h.a0, h.a1, by show m.s.bs.length ≤ _; omega, h.bl, by have := h.fn; show (m.fs ++ [_]).length ≤ _; rw [List.length_append]; simp; omega, fun x hx => ?_, by have := h.rn; show m.rp.length ≤ _; omega, h.p, h.g⟩
        rcases List.mem_append.1 hx with hx | hx
        · exact ⟨(h.f x hx).1.mono hm, (h.f x hx).2⟩
        · rw [List.mem_singleton.1 hx]
          exact ⟨emit_good h.l h.bl h0 h1, by have := h.a1; show emitQ m a ≤ m.r.nx + 15; omega⟩
    · split
      · split
        · rename_i hf
          have hb := around_b a.n (most := (m.fs.length : Int)) (by omega)
          obtain ⟨g1, g2⟩ := h.f _ (getD_mem zFr (show (around a.n m.fs.length).toNat < m.fs.length by omega))
          obtain ⟨hA, _, _⟩ := recv_good h.r g1 (by have := g1.q0; omega) g2
          exact winv_mono (hA.winv h) (by omega)
        · exact winv_mono h (by omega)
      · split
        · refine ⟨h.r, h.l, by have := h.li; push_cast; omega, h.a0, h.a1, by show m.s.bs.length ≤ _; omega, h.bl, by have := h.fn; show m.fs.length ≤ _; omega, h.f, by have := h.rn; show (m.rp ++ [_]).length ≤ _; rw [List.length_append]; simp; omega, fun x hx => ?_, h.g⟩
          rcases List.mem_append.1 hx with hx | hx
          · exact h.p x hx
          · rw [List.mem_singleton.1 hx]
            exact ⟨hn0, Int.le_refl _, Int.le_refl _⟩
        · split
          · rename_i hr
            have hb := around_b a.n (most := (m.rp.length : Int)) (by omega)
            exact winv_mono (winv_confirm h (h.p _ (getD_mem zRp (show (around a.n m.rp.length).toNat < m.rp.length by omega)))) (by omega)
          · exact winv_mono h (by omega)
end Go.Proofs.YthoikljmokkchaaDoor
namespace Go.Proofs.YthoikljmokkchaaDoor
open Go.RowKit
theorem state_ok (r : Rv) (h : 0 ≤ r.nx) : RpOk r (stateM r) := ⟨h, Int.le_refl _, Int.le_refl _⟩
end Go.Proofs.YthoikljmokkchaaDoor
namespace Go.Proofs.YthoikljmokkchaaDoor
open Go.RowKit
/-- the frame that FrameForged emits -/
def forgS (m : WM) : WM := ⟨confirmM ⟨m.s.bs ++ [[120]], m.s.a, m.s.l⟩ (stateM m.r), m.r, m.fs, m.rp, m.gt⟩
def forgF (m : WM) : Fr := signF m.s.l ⟨m.r.nx, 0, false, (m.s.bs ++ [[120]]).getD m.r.nx.toNat [], 0⟩
theorem forg_winv {key : Nat} {m : WM} {n : Nat} (h : WInv key m n) : WInv key (forgS m) (n + 1) := by
  have h1 := winv_queue h (b := [120]) (by simp)
  exact winv_confirm h1 (state_ok m.r h.r.n0)
theorem forg_s {key : Nat} {m : WM} {n : Nat} (h : WInv key m n) : (forgS m).s = ⟨m.s.bs ++ [[120]], m.r.nx, m.s.l⟩ := by
  have h1 := h.r.n1; have h2 := h.a1
  show (⟨m.s.bs ++ [[120]], ackN m.s.a m.r.nx (m.s.bs ++ [[120]]).length, confL m.s.l m.r.l.i⟩ : Sd) = _
  rw [conf_same h.r.ki]
  unfold ackN
  rw [List.length_append]
  simp only [List.length_singleton]
  congr 1; push_cast; omega
theorem forg_emit {key : Nat} {m : WM} {n : Nat} (h : WInv key m n) : emitM (forgS m).s m.r.nx = (forgF m, ⟨m.s.bs ++ [[120]], m.r.nx, nextL m.s.l⟩, 0) := by
  have h1 := h.r.n1; have h0 := h.r.n0
  rw [forg_s h]
  unfold emitM
  rw [if_neg (by rw [List.length_append]; simp only [List.length_singleton]; push_cast; omega), if_neg (by show ¬ (m.r.nx < m.r.nx ∨ m.r.nx + 16 ≤ m.r.nx); omega)]
  rfl
theorem forg_len {key : Nat} {m : WM} {n : Nat} (h : WInv key m n) : (forgF m).b.length ≤ 512 := by
  have h1 := h.r.n1; have h0 := h.r.n0
  exact (forg_winv h).bl _ (by rw [forg_s h]; exact getD_mem [] (by rw [List.length_append]; simp only [List.length_singleton]; omega))
theorem forg_recv {key : Nat} {m : WM} {n : Nat} (h : WInv key m n) (hn : n ≤ 4000) {tag : Nat} (ht : tag ≠ (forgF m).t) : recvM m.r ⟨(forgF m).q, (forgF m).k, (forgF m).u, (forgF m).b, tag⟩ = (m.r, [], 8) := by
  have hki := h.r.ki; have hli := h.li; have hk0 := h.r.kd.1
  have hl := forg_len h
  have hf : Made key (forgF m) := made_sign h.l _
  unfold recvM
  rw [if_neg (by show ¬ 512 < (forgF m).b.length; omega)]
  have hk : (forgF m).k = m.s.l.i := rfl
  have hnk : ¬ ((forgF m).k < m.r.l.i ∨ m.r.l.i + 4096 < (forgF m).k) := by omega
  have ec : covL ⟨(forgF m).q, (forgF m).k, (forgF m).u, (forgF m).b, tag⟩ = covL (forgF m) := rfl
  rw [ec]
  have e : tagN (iterN ((forgF m).k - m.r.l.i).toNat m.r.l.k) (covL (forgF m)) = (forgF m).t := by
    rw [hf.2, h.r.kd.2, iterN_add]
    congr 2; omega
  rw [accept_sum hnk (by rw [e]; exact fun h => ht h.symm), if_pos (by simp)]
end Go.Proofs.YthoikljmokkchaaDoor
