/- Frame: Receive, what it needs. -/
import Derived.Test.YthoikljmokkchaaDoorFrQ
import Derived.Laws.OwnMore
namespace Go.Proofs.YthoikljmokkchaaDoor
open Go.RowKit
theorem frp_form {KD : Nat → Prop} {B : Nat} {w : World} {a : Option Addr} {n c : Nat} {l : List Fr} (h : FrP KD B w (.slice a n c) l) (hl : 0 < l.length) : ∃ g, a = some ⟨g, 0, none⟩ ∧ B ≤ g ∧ g < w.heap.size ∧ ∀ j, w.frozen? ⟨g, j, none⟩ = false := by
  obtain ⟨xs, ho, hge, hc⟩ := h
  have ho1 := ho.1
  rcases ho.1.2 with ⟨_, h0⟩ | ⟨g, cap, cur, h, h1, h2, h3, _⟩
  · omega
  · injection h with e1 e2 e3
    subst e1 e2 e3
    exact ⟨g, rfl, hge g rfl, (Array.getElem?_eq_some_iff.1 h2).1, fun j => World.ownsRow.frozenAt ho1 j⟩
theorem FrL.set {K : Nat → Prop} {w : World} {xs : List Value} {l : List Fr} {k : Nat} {x : Fr} {v : Value} (h : FrL K w xs l) (hx : l[k]? = some x) (hs : Sl K w v (u8s x.b)) : FrL K w (xs.set (k * 5 + 3) v) l := by
  refine ⟨by rw [List.length_set]; exact h.1, fun i y hy => ?_⟩
  have hk : k < l.length := (List.getElem?_eq_some_iff.1 hx).1
  have hlen := h.1
  have key : ∀ j, i * 5 + j ≠ k * 5 + 3 → (xs.set (k * 5 + 3) v).getD (i * 5 + j) undef = xs.getD (i * 5 + j) undef := fun j hj => by
    unfold List.getD; rw [List.getElem?_set_ne (Ne.symm hj)]
  by_cases hik : i = k
  · subst hik
    rw [hx] at hy; injection hy with hy; subst hy
    obtain ⟨c0, c1, c2, c4, _⟩ := h.2 i x hx
    refine ⟨(key 0 (by omega)).trans c0, (key 1 (by omega)).trans c1, (key 2 (by omega)).trans c2, (key 4 (by omega)).trans c4, ?_⟩
    have e : (xs.set (i * 5 + 3) v).getD (i * 5 + 3) undef = v := by
      unfold List.getD; rw [List.getElem?_set_self (by rw [hlen]; omega)]; rfl
    show Sl K w ((xs.set (i * 5 + 3) v).getD (i * 5 + 3) undef) _
    rw [e]; exact hs
  · refine (h.2 i y hy).congr (fun j hj => key j ?_)
    rcases Nat.lt_or_ge i k with h1 | h1 <;> omega
theorem FrP.set {KD : Nat → Prop} {B : Nat} {w : World} {g n c k : Nat} {l : List Fr} {x : Fr} {v : Value} (h : FrP KD B w (.slice (some ⟨g, 0, none⟩) n c) l) (hn : l.length = n) (hx : l[k]? = some x) (hs : Sl (fun b => KD b ∧ b ≠ g) w v (u8s x.b)) :
    FrP KD B (w.setCell ⟨g, k * 5 + 3, none⟩ v) (.slice (some ⟨g, 0, none⟩) n c) l := by
  obtain ⟨xs, ho, hge, hc⟩ := h
  have hne : ∀ b, b ≠ g → (Value.slice (some ⟨g, 0, none⟩) n c).ownBlock ≠ some b := fun b hb e => by injection e with e; exact hb e.symm
  rw [hn] at ho
  refine ⟨xs.set (k * 5 + 3) v, ⟨by rw [hn]; exact (ho.1.stored (k * 5 + 3) v).1, ho.2⟩, hge, ?_⟩
  have hs' := (hc.set hx (hs.mono (K' := fun b => KD b ∧ (Value.slice (some ⟨g, 0, none⟩) n c).ownBlock ≠ some b) (fun b _ h => ⟨h.1, hne b h.2⟩)))
  exact hs'.keep (S := fun b => b = g) ((Keeps.refl (fun b => b = g) w).setCell (p := ⟨g, k * 5 + 3, none⟩) (.inl rfl) v) (fun b _ h1 h2 => by subst h2; exact h1.2 rfl)
theorem keep_frs {w w' : World} {K : Nat → Prop} {l : List Fr} {xs : List Value} {f : Fr} {ad : Option Addr} {cd : Nat} {e : Ending} (hK : ∀ b, K b → b < w.heap.size) (hl : FrL K w xs l) (hs : Sl K w (.slice ad f.b.length cd) (u8s f.b)) (h : KeepP w K l xs f ad cd e w') :
    ∃ a c, e = .returned (.slice a (insM f l).length c) ∧ Frs (fun b => K b ∨ w.heap.size ≤ b) w' (.slice a (insM f l).length c) (insM f l) ∧ Keeps (fun _ => False) w w' := by
  rcases h with ⟨k, a, c, hk, h1, h2, rfl, ho, hkeep⟩ | ⟨k, x, a, c, hx, hq, h1, rfl, hf, hkeep⟩
  · have e1 := insM_at f l k hk h1 h2
    have hlen : (insM f l).length = l.length + 1 := by rw [e1, List.length_append, List.length_cons, List.length_take, List.length_drop]; omega
    refine ⟨a, c, by rw [hlen], ⟨_, by rw [hlen]; exact ho.row.mono (fun b _ h => .inr h), ?_⟩, hkeep⟩
    rw [e1, show l.take k ++ f :: l.drop k = l.take k ++ [f] ++ l.drop k by simp]
    have g := ((hl.take k).append (FrL.one hs)).append (hl.drop k)
    exact (g.keep hkeep (fun _ _ _ h => h)).mono (fun b _ h => .inl h)
  · have e1 := insM_in f l k x hx hq h1
    rw [e1]
    exact ⟨a, c, rfl, hf, hkeep⟩
def RecvR (w : World) (K : Nat → Prop) (m : Rv × List (List Nat) × Int) (e : Ending) (w' : World) : Prop := ∃ a2 c2 a3 c3, e = .returned (.tuple #[.agg #[.int .i64 m.1.nx, .slice a2 m.1.fs.length c2, .bool m.1.lk, .int .u64 (m.1.l.k : Int), .int .i64 m.1.l.i], .slice a3 m.2.1.length c3, .int .i64 m.2.2]) ∧
  Frs (fun b => K b ∨ w.heap.size ≤ b) w' (.slice a2 m.1.fs.length c2) m.1.fs ∧ Bds (fun b => w.heap.size ≤ b) w' (.slice a3 m.2.1.length c3) m.2.1 ∧ Keeps (fun _ => False) w w'
theorem recvM_long {r : Rv} {f : Fr} (h : 512 < f.b.length) : recvM r f = (r, [], 2) := by unfold recvM; rw [if_pos h]
theorem recvM_bad {r : Rv} {f : Fr} {l : Ld} {er : Int} (h : ¬ 512 < f.b.length) (ha : acceptL r.l f.k (covL f) f.t = (l, er)) (he : er ≠ 0) : recvM r f = (r, [], er) := by
  unfold recvM; rw [if_neg h, ha, if_pos he]
theorem recvM_go {r : Rv} {f : Fr} {l : Ld} (h : ¬ 512 < f.b.length) (ha : acceptL r.l f.k (covL f) f.t = (l, 0)) : recvM r f = recv2 r l f := by
  unfold recvM; rw [if_neg h, ha, if_neg (by simp)]
theorem recv2_uold {r : Rv} {f : Fr} {l : Ld} (hu : f.u = true) (hd : 128 ≤ distM f.q r.nx) : recv2 r l f = (⟨r.nx, [], false, l⟩, [], 0) := by
  unfold recv2; rw [hu]; simp [hd]
theorem recv2_unew {r : Rv} {f : Fr} {l : Ld} (hu : f.u = true) (hd : distM f.q r.nx < 128) : recv2 r l f = (⟨r.nx + (distM f.q r.nx : Nat), [], false, l⟩, [], 0) := by
  unfold recv2; rw [hu]; simp [Nat.not_le.2 hd]
theorem recv2_lock {r : Rv} {f : Fr} {l : Ld} (hu : f.u = false) (hl : r.lk = true) : recv2 r l f = (⟨r.nx, r.fs, true, l⟩, [], 31) := by
  unfold recv2; rw [hu, hl]; simp
theorem recv2_del {r : Rv} {f : Fr} {l : Ld} (hu : f.u = false) (hl : r.lk = false) (hd : distM f.q r.nx = 0) : recv2 r l f = delivM r l f.b := by
  unfold recv2; rw [hu, hl]; simp [hd]
theorem recv2_keep {r : Rv} {f : Fr} {l : Ld} (hu : f.u = false) (hl : r.lk = false) (hd : distM f.q r.nx ≠ 0) (hd2 : distM f.q r.nx < 16) : recv2 r l f = (⟨r.nx, insM (setQ f (r.nx + (distM f.q r.nx : Nat))) r.fs, false, l⟩, [], 0) := by
  unfold recv2; rw [hu, hl]; simp [hd, hd2]
theorem recv2_far {r : Rv} {f : Fr} {l : Ld} (hu : f.u = false) (hl : r.lk = false) (hd : 16 ≤ distM f.q r.nx) (hd2 : distM f.q r.nx < 128) : recv2 r l f = (⟨r.nx, r.fs, true, l⟩, [], 32) := by
  unfold recv2; rw [hu, hl]; simp [hd2, Nat.not_lt.2 hd, show distM f.q r.nx ≠ 0 by omega]
theorem recv2_old {r : Rv} {f : Fr} {l : Ld} (hu : f.u = false) (hl : r.lk = false) (hd : 128 ≤ distM f.q r.nx) : recv2 r l f = (⟨r.nx, r.fs, false, l⟩, [], 0) := by
  unfold recv2; rw [hu, hl]; simp [show ¬ distM f.q r.nx < 128 by omega, show ¬ distM f.q r.nx < 16 by omega, show distM f.q r.nx ≠ 0 by omega]
end Go.Proofs.YthoikljmokkchaaDoor
