/- Frame: bounds in the rounds. -/
import Derived.Test.YthoikljmokkchaaDoorFrHist
import Derived.Test.YthoikljmokkchaaDoorFrWrl
namespace Go.Proofs.YthoikljmokkchaaDoor
open Go.RowKit
theorem wok_roundS {m : WM} {n : Nat} (h : WOk m n) : WOk (roundS m) n := ⟨h.r, h.f, h.b, iterN_lt h.l _⟩
theorem emit_ok {key : Nat} {m : WM} {n : Nat} (hi : WInv key m n) (h : WOk m n) (hn : n ≤ 100000) {q : Int} (h0 : 0 ≤ q) (h1 : q < m.s.bs.length) : (signF m.s.l ⟨q, 0, false, m.s.bs.getD q.toNat [], 0⟩).ok := by
  have hm := getD_mem (l := m.s.bs) (k := q.toNat) [] (by omega)
  exact signF_okx (h.lok hi hn) (by show _ ≤ q; omega) (by show q ≤ _; have := hi.bn; omega) (h.b _ hm) (hi.bl _ hm)
theorem wok_roundAt {key : Nat} {m : WM} {n : Nat} (hi : WInv key m n) (h : WOk m n) (hn : n ≤ 3900) : ∀ i, i ≤ (roundL m).length → i ≤ 60 → WOk (roundAt m i) (n + i) := by
  intro i
  induction i with
  | zero => intro _ _; exact wok_roundS h
  | succ i ih =>
    intro h1 h2
    have hlt : i < (roundL m).length := h1
    have hq := List.getElem?_eq_getElem hlt
    obtain ⟨e1, e2⟩ := round_emit hi hn hq
    have hm := (roundL_mem hi).1 (List.getElem_mem hlt)
    have hr := rs_at hi hn i (by omega) (by omega)
    have hr0 := hi.r.n0
    rw [e2]
    unfold roundStep
    rw [e1]
    have ho := ih (by omega) (by omega)
    have he := emit_ok hr.w ho (by omega) (q := (roundL m)[i]) (Int.le_trans hr0 hm.1) (by rw [hr.bs]; exact hm.2.2.1)
    exact WOk.arrive (n := n + i) (m := ⟨⟨(roundAt m i).s.bs, (roundAt m i).s.a, nextL (roundAt m i).s.l⟩, (roundAt m i).r, (roundAt m i).fs, (roundAt m i).rp, (roundAt m i).gt⟩) ⟨ho.r, ho.f, ho.b, stepN_lt _⟩ (by omega) he
theorem wok_round {key : Nat} {m : WM} {n : Nat} (hi : WInv key m n) (h : WOk m n) (hn : n ≤ 3900) : WOk (roundM m) (n + 16) := by
  have hl := roundL_len hi
  have := wok_roundAt hi h hn _ (Nat.le_refl _) (by omega)
  rw [roundAt_all] at this
  exact this.mono (by omega)
theorem wok_rounds {key : Nat} {m : WM} {n : Nat} (hi : WInv key m n) (h : WOk m n) : ∀ k, n + 16 * k ≤ 3900 → WOk (roundsM m k) (n + 16 * k) := by
  intro k
  induction k with
  | zero => intro _; exact h
  | succ k ih =>
    intro hk
    have h1 := ih (by omega)
    have h2 := (rounds_law hi k (by omega)).1
    exact (wok_round h2 h1 (by omega)).mono (by omega)
theorem rs_q {key : Nat} {m : WM} {n : Nat} (hi : WInv key m n) {i : Nat} {q : Int} (hq : (roundL m)[i]? = some q) : 0 ≤ q ∧ q < m.s.bs.length := by
  have hm := (roundL_mem hi).1 (List.mem_of_getElem? hq)
  have := hi.r.n0
  exact ⟨Int.le_trans this hm.1, hm.2.2.1⟩
end Go.Proofs.YthoikljmokkchaaDoor
