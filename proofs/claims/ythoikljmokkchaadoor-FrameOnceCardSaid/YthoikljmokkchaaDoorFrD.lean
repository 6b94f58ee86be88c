/- Frame: lists of frames and of bodies in memory. -/
import Derived.Test.YthoikljmokkchaaDoorFrC
import Derived.Test.YthoikljmokkchaaDoorStepRow
namespace Go.Proofs.YthoikljmokkchaaDoor
open Go.RowKit
def FrCells (K : Nat → Prop) (w : World) (c : Nat → Value) (x : Fr) : Prop :=
  c 0 = .int .i64 x.q ∧ c 1 = .int .i64 x.k ∧ c 2 = .bool x.u ∧ c 4 = .int .u64 (x.t : Int) ∧ Sl K w (c 3) (u8s x.b)
theorem FrCells.keep {K S : Nat → Prop} {w w' : World} {c : Nat → Value} {x : Fr} (h : FrCells K w c x) (hk : Keeps S w w') (hd : ∀ b, b < w.heap.size → K b → ¬ S b) : FrCells K w' c x := ⟨h.1, h.2.1, h.2.2.1, h.2.2.2.1, h.2.2.2.2.keep hk hd⟩
theorem FrCells.mono {K K' : Nat → Prop} {w : World} {c : Nat → Value} {x : Fr} (h : FrCells K w c x) (hd : ∀ b, b < w.heap.size → K b → K' b) : FrCells K' w c x := ⟨h.1, h.2.1, h.2.2.1, h.2.2.2.1, h.2.2.2.2.mono hd⟩
theorem FrCells.congr {K : Nat → Prop} {w : World} {c c' : Nat → Value} {x : Fr} (h : FrCells K w c x) (e : ∀ j, j < 5 → c' j = c j) : FrCells K w c' x := by
  obtain ⟨h0, h1, h2, h3, h4⟩ := h
  exact ⟨(e 0 (by omega)).trans h0, (e 1 (by omega)).trans h1, (e 2 (by omega)).trans h2, (e 4 (by omega)).trans h3, by rw [e 3 (by omega)]; exact h4⟩
def FrL (K : Nat → Prop) (w : World) (xs : List Value) (l : List Fr) : Prop := xs.length = l.length * 5 ∧ ∀ i x, l[i]? = some x → FrCells K w (fun j => xs.getD (i * 5 + j) undef) x
theorem FrL.keep {K S : Nat → Prop} {w w' : World} {xs : List Value} {l : List Fr} (h : FrL K w xs l) (hk : Keeps S w w') (hd : ∀ b, b < w.heap.size → K b → ¬ S b) : FrL K w' xs l := ⟨h.1, fun i x hi => (h.2 i x hi).keep hk hd⟩
theorem FrL.mono {K K' : Nat → Prop} {w : World} {xs : List Value} {l : List Fr} (h : FrL K w xs l) (hd : ∀ b, b < w.heap.size → K b → K' b) : FrL K' w xs l := ⟨h.1, fun i x hi => (h.2 i x hi).mono hd⟩
theorem FrL.nil (K : Nat → Prop) (w : World) : FrL K w [] [] := ⟨rfl, fun i x h => by simp at h⟩
theorem FrL.append {K : Nat → Prop} {w : World} {xs ys : List Value} {l m : List Fr} (h : FrL K w xs l) (h2 : FrL K w ys m) : FrL K w (xs ++ ys) (l ++ m) := by
  refine ⟨by rw [List.length_append, List.length_append, h.1, h2.1]; omega, fun i y hi => ?_⟩
  rcases Nat.lt_or_ge i l.length with hl | hl
  · rw [List.getElem?_append_left hl] at hi
    refine (h.2 i y hi).congr (fun j hj => ?_)
    unfold List.getD
    rw [List.getElem?_append_left (by rw [h.1]; omega)]
  · rw [List.getElem?_append_right hl] at hi
    refine (h2.2 _ y hi).congr (fun j hj => ?_)
    unfold List.getD
    rw [List.getElem?_append_right (by rw [h.1]; omega), h.1]
    congr 2; omega
theorem FrL.one {K : Nat → Prop} {w : World} {x : Fr} {a : Option Addr} {c : Nat} (h : Sl K w (.slice a x.b.length c) (u8s x.b)) : FrL K w [.int .i64 x.q, .int .i64 x.k, .bool x.u, .slice a x.b.length c, .int .u64 (x.t : Int)] [x] := by
  refine ⟨rfl, fun i y hi => ?_⟩
  match i, hi with
  | 0, hi => simp at hi; subst hi; exact ⟨rfl, rfl, rfl, rfl, h⟩
  | i + 1, hi => simp at hi
theorem FrL.ones {K : Nat → Prop} {w : World} {xs : List Value} {l : List Fr} (h : FrL K w xs l) : ∀ u ∈ xs, u.oneCell' = true := by
  intro u hu
  obtain ⟨p, hp, rfl⟩ := List.getElem_of_mem hu
  have hl := h.1
  have hi : p / 5 < l.length := by omega
  have key : ∀ j, p % 5 = j → xs[p] = xs.getD (p / 5 * 5 + j) undef := fun j hj => by
    have : p / 5 * 5 + j = p := by omega
    rw [this, List.getD, List.getElem?_eq_getElem hp]; rfl
  obtain ⟨c0, c1, c2, c3, c4⟩ := h.2 _ _ (List.getElem?_eq_getElem hi)
  rcases (show p % 5 = 0 ∨ p % 5 = 1 ∨ p % 5 = 2 ∨ p % 5 = 3 ∨ p % 5 = 4 by omega) with hj | hj | hj | hj | hj
  · rw [key 0 hj]; exact (congrArg Value.oneCell' c0).trans rfl
  · rw [key 1 hj]; exact (congrArg Value.oneCell' c1).trans rfl
  · rw [key 2 hj]; exact (congrArg Value.oneCell' c2).trans rfl
  · rw [key 3 hj]
    obtain ⟨a, cap, e, _⟩ := c4.bytes
    exact (congrArg Value.oneCell' e).trans rfl
  · rw [key 4 hj]; exact (congrArg Value.oneCell' c3).trans rfl
def Frs (K : Nat → Prop) (w : World) (v : Value) (l : List Fr) : Prop := ∃ xs, Row K w 5 v l.length xs ∧ FrL K w xs l
theorem Frs.keep {K S : Nat → Prop} {w w' : World} {v : Value} {l : List Fr} (h : Frs K w v l) (hk : Keeps S w w') (hd : ∀ b, b < w.heap.size → K b → ¬ S b) : Frs K w' v l := by
  obtain ⟨xs, h1, h2⟩ := h
  exact ⟨xs, h1.keep hk hd, h2.keep hk hd⟩
theorem Frs.mono {K K' : Nat → Prop} {w : World} {v : Value} {l : List Fr} (h : Frs K w v l) (hd : ∀ b, b < w.heap.size → K b → K' b) : Frs K' w v l := by
  obtain ⟨xs, h1, h2⟩ := h
  exact ⟨xs, h1.mono hd, h2.mono hd⟩
theorem Frs.nil (K : Nat → Prop) (w : World) : Frs K w (.slice none 0 0) [] := ⟨[], ⟨rfl, .inl ⟨rfl, rfl⟩⟩, FrL.nil _ _⟩
theorem Frs.form {K : Nat → Prop} {w : World} {v : Value} {l : List Fr} (h : Frs K w v l) : ∃ a c, v = .slice a l.length c ∧ l.length ≤ c ∧ c ≤ maxLen := by
  obtain ⟨xs, h1, _⟩ := h
  obtain ⟨a, c, e, g1, g2, _⟩ := h1.form
  exact ⟨a, c, e, g1, g2⟩
/-- segments in a row of the call's own; their bytes in KD -/
def FrP (KD : Nat → Prop) (B : Nat) (w : World) (v : Value) (l : List Fr) : Prop :=
  ∃ xs, Own (fun b => v.ownBlock = some b) w 25 5 v l.length xs ∧ (∀ b, v.ownBlock = some b → B ≤ b) ∧ FrL (fun b => KD b ∧ v.ownBlock ≠ some b) w xs l
theorem FrP.nil (KD : Nat → Prop) (B : Nat) (w : World) : FrP KD B w (.slice none 0 0) [] := ⟨[], Own.nil _ _ _ _, fun b h => by simp [Value.ownBlock] at h, FrL.nil _ _⟩
theorem FrP.sgs {KD : Nat → Prop} {B : Nat} {w : World} {v : Value} {l : List Fr} (h : FrP KD B w v l) : Frs (fun b => KD b ∨ B ≤ b) w v l := by
  obtain ⟨xs, h1, h2, h3⟩ := h
  exact ⟨xs, h1.row.mono (fun b _ hb => .inr (h2 b hb)), h3.mono (fun b _ hb => .inl hb.1)⟩
theorem FrP.keep {KD : Nat → Prop} {B : Nat} {S : Nat → Prop} {w w' : World} {v : Value} {l : List Fr} (h : FrP KD B w v l) (hk : Keeps S w w') (hd : ∀ b, b < w.heap.size → (KD b ∨ B ≤ b) → ¬ S b) : FrP KD B w' v l := by
  obtain ⟨xs, h1, h2, h3⟩ := h
  exact ⟨xs, h1.keep hk (fun b hb hh => hd b hb (.inr (h2 b hh))), h2, h3.keep hk (fun b hb hh => hd b hb (.inl hh.1))⟩
theorem frp_append {KD : Nat → Prop} {B : Nat} {wr V w7 : World} {v v7 : Value} {l m : List Fr} {xs ns : List Value}
    (hge : ∀ b, v.ownBlock = some b → B ≤ b) (hc : FrL (fun b => KD b ∧ v.ownBlock ≠ some b) wr xs l)
    (hV : Keeps (fun _ => False) wr V) (hs : FrL (fun b => KD b ∧ v.ownBlock ≠ some b) V ns m) (hB : B ≤ V.heap.size)
    (h7 : Own (fun k => v.ownBlock = some k ∨ V.heap.size ≤ k) w7 25 5 v7 (l.length + m.length) (xs ++ ns)) (hk7 : Keeps (fun b => v.ownBlock = some b) V w7) :
    FrP KD B w7 v7 (l ++ m) := by
  have zV := hV.size
  have key : ∀ b, b < V.heap.size → (KD b ∧ v.ownBlock ≠ some b) → (KD b ∧ v7.ownBlock ≠ some b) ∧ v.ownBlock ≠ some b := fun b hb h => ⟨⟨h.1, fun e => by
    rcases h7.2 b e with h' | h'
    · exact h.2 h'
    · omega⟩, h.2⟩
  refine ⟨_, ⟨by rw [List.length_append]; exact h7.1, fun _ h => h⟩, fun b hb => ?_, ?_⟩
  · rcases h7.2 b hb with h | h
    · exact hge b h
    · omega
  · exact ((((hc.keep hV (fun _ _ _ h => h)).append hs).mono key).keep hk7 (fun b _ h1 h2 => h1.2 h2)).mono (fun b _ h => h.1)
theorem infoFr : (Tryd.prog.info? 25).map (fun i => (i.size, i.bytes)) = some (5, 56) := by kernel_rfl
theorem infoFrz : ((Tryd.prog.info? 25).bind (·.zero)).map (fun z => z.cells) = some #[.int .i64 0, .int .i64 0, .bool false, .slice none 0 0, .int .u64 0] := by kernel_rfl
theorem fr_parts : ∃ i z, Tryd.prog.info? 25 = some i ∧ i.zero = some z ∧ i.size = 5 ∧ i.bytes = 56 ∧ z.cells.size = 5 := by
  obtain ⟨i, hi, h1⟩ := Option.map_eq_some_iff.1 infoFr
  have h2 := infoFrz
  rw [hi] at h2
  obtain ⟨z, hz, h3⟩ := Option.map_eq_some_iff.1 h2
  simp only [Prod.mk.injEq] at h1
  exact ⟨i, z, hi, hz, h1.1, h1.2, by rw [h3]; rfl⟩
theorem frs_cells {K : Nat → Prop} {w : World} {a : Option Addr} {n c : Nat} {l : List Fr} (h : Frs K w (.slice a n c) l) (hl : 0 < l.length) :
    ∃ b o, a = some ⟨b, o, none⟩ ∧ K b ∧ b < w.heap.size ∧ ∀ k x, l[k]? = some x → w.cell? ⟨b, o + k * 5, none⟩ = some (.int .i64 x.q) ∧ w.cell? ⟨b, o + k * 5 + 1, none⟩ = some (.int .i64 x.k) ∧ w.cell? ⟨b, o + k * 5 + 2, none⟩ = some (.bool x.u) ∧ w.cell? ⟨b, o + k * 5 + 4, none⟩ = some (.int .u64 (x.t : Int)) ∧
      ∃ ad cd, w.cell? ⟨b, o + k * 5 + 3, none⟩ = some (.slice ad x.b.length cd) ∧ Sl K w (.slice ad x.b.length cd) (u8s x.b) := by
  obtain ⟨xs, hrow, hc⟩ := h
  obtain ⟨a', c', e, _, _, hel⟩ := hrow.form
  injection e with e1 e2 e3
  subst e1
  obtain ⟨b, o, ea, hK, hb, hcell⟩ := hel hl
  refine ⟨b, o, ea, hK, hb, fun k x hx => ?_⟩
  have hk : k < l.length := (List.getElem?_eq_some_iff.1 hx).1
  obtain ⟨t0, t1, t2, t3, t4⟩ := hc.2 k x hx
  have key : ∀ j, j < 5 → w.cell? ⟨b, o + k * 5 + j, none⟩ = some (xs.getD (k * 5 + j) undef) := fun j hj => by rw [Nat.add_assoc]; exact hcell (k * 5 + j) (by omega)
  obtain ⟨ad, cd, e4, _⟩ := t4.bytes
  have e4' : xs.getD (k * 5 + 3) undef = .slice ad x.b.length cd := e4
  have h4 : Sl K w (.slice ad x.b.length cd) (u8s x.b) := by have h := t4; simp only [e4'] at h; exact h
  exact ⟨(key 0 (by omega)).trans (congrArg some t0), (key 1 (by omega)).trans (congrArg some t1), (key 2 (by omega)).trans (congrArg some t2), (key 4 (by omega)).trans (congrArg some t3), ad, cd, (key 3 (by omega)).trans (congrArg some e4'), h4⟩
theorem lit_rowF (w : World) (cs : Array Value) (t : TypeId) (n size : Nat) (h : cs.size = n * size) (hm : n ≤ maxLen) : Row (fun _ => True) (w.alloc (.cells cs t)) size (.slice (some ⟨w.heap.size, 0, none⟩) n n) n cs.toList :=
  Own.row (S := fun _ => True) ⟨World.ownsRow_lit (base := 0) (e := t) w cs n (Nat.zero_le _) hm h, fun _ _ => trivial⟩
/-- bodies: the cells of a list of byte slices -/
def BdL (K : Nat → Prop) (w : World) (xs : List Value) (l : List (List Nat)) : Prop := xs.length = l.length ∧ ∀ i x, l[i]? = some x → Sl K w (xs.getD i undef) (u8s x)
theorem BdL.keep {K S : Nat → Prop} {w w' : World} {xs : List Value} {l : List (List Nat)} (h : BdL K w xs l) (hk : Keeps S w w') (hd : ∀ b, b < w.heap.size → K b → ¬ S b) : BdL K w' xs l := ⟨h.1, fun i x hi => (h.2 i x hi).keep hk hd⟩
theorem BdL.mono {K K' : Nat → Prop} {w : World} {xs : List Value} {l : List (List Nat)} (h : BdL K w xs l) (hd : ∀ b, b < w.heap.size → K b → K' b) : BdL K' w xs l := ⟨h.1, fun i x hi => (h.2 i x hi).mono hd⟩
theorem BdL.nil (K : Nat → Prop) (w : World) : BdL K w [] [] := ⟨rfl, fun i x h => by simp at h⟩
theorem BdL.append {K : Nat → Prop} {w : World} {xs ys : List Value} {l m : List (List Nat)} (h : BdL K w xs l) (h2 : BdL K w ys m) : BdL K w (xs ++ ys) (l ++ m) := by
  refine ⟨by rw [List.length_append, List.length_append, h.1, h2.1], fun i y hi => ?_⟩
  rcases Nat.lt_or_ge i l.length with hl | hl
  · rw [List.getElem?_append_left hl] at hi
    unfold List.getD
    rw [List.getElem?_append_left (by rw [h.1]; omega)]
    exact h.2 i y hi
  · rw [List.getElem?_append_right hl] at hi
    unfold List.getD
    rw [List.getElem?_append_right (by rw [h.1]; omega), h.1]
    exact h2.2 _ y hi
theorem BdL.one {K : Nat → Prop} {w : World} {x : List Nat} {v : Value} (h : Sl K w v (u8s x)) : BdL K w [v] [x] := by
  refine ⟨rfl, fun i y hi => ?_⟩
  match i, hi with
  | 0, hi => simp at hi; subst hi; exact h
  | i + 1, hi => simp at hi
theorem BdL.ones {K : Nat → Prop} {w : World} {xs : List Value} {l : List (List Nat)} (h : BdL K w xs l) : ∀ u ∈ xs, u.oneCell' = true := by
  intro u hu
  obtain ⟨p, hp, rfl⟩ := List.getElem_of_mem hu
  have hi : p < l.length := by rw [← h.1]; exact hp
  obtain ⟨a, cap, e, _⟩ := (h.2 _ _ (List.getElem?_eq_getElem hi)).bytes
  rw [List.getD, List.getElem?_eq_getElem hp] at e
  exact (congrArg Value.oneCell' e).trans rfl
def Bds (K : Nat → Prop) (w : World) (v : Value) (l : List (List Nat)) : Prop := ∃ xs, Row K w 1 v l.length xs ∧ BdL K w xs l
theorem Bds.keep {K S : Nat → Prop} {w w' : World} {v : Value} {l : List (List Nat)} (h : Bds K w v l) (hk : Keeps S w w') (hd : ∀ b, b < w.heap.size → K b → ¬ S b) : Bds K w' v l := by
  obtain ⟨xs, h1, h2⟩ := h
  exact ⟨xs, h1.keep hk hd, h2.keep hk hd⟩
theorem Bds.mono {K K' : Nat → Prop} {w : World} {v : Value} {l : List (List Nat)} (h : Bds K w v l) (hd : ∀ b, b < w.heap.size → K b → K' b) : Bds K' w v l := by
  obtain ⟨xs, h1, h2⟩ := h
  exact ⟨xs, h1.mono hd, h2.mono hd⟩
theorem Bds.nil (K : Nat → Prop) (w : World) : Bds K w (.slice none 0 0) [] := ⟨[], ⟨rfl, .inl ⟨rfl, rfl⟩⟩, BdL.nil _ _⟩
theorem Bds.form {K : Nat → Prop} {w : World} {v : Value} {l : List (List Nat)} (h : Bds K w v l) : ∃ a c, v = .slice a l.length c ∧ l.length ≤ c ∧ c ≤ maxLen := by
  obtain ⟨xs, h1, _⟩ := h
  obtain ⟨a, c, e, g1, g2, _⟩ := h1.form
  exact ⟨a, c, e, g1, g2⟩
theorem bds_cells {K : Nat → Prop} {w : World} {a : Option Addr} {n c : Nat} {l : List (List Nat)} (h : Bds K w (.slice a n c) l) (hl : 0 < l.length) :
    ∃ b o, a = some ⟨b, o, none⟩ ∧ K b ∧ b < w.heap.size ∧ ∀ k x, l[k]? = some x → ∃ ad cd, w.cell? ⟨b, o + k, none⟩ = some (.slice ad x.length cd) ∧ Sl K w (.slice ad x.length cd) (u8s x) := by
  obtain ⟨xs, hrow, hc⟩ := h
  obtain ⟨a', c', e, _, _, hel⟩ := hrow.form
  injection e with e1 e2 e3
  subst e1
  obtain ⟨b, o, ea, hK, hb, hcell⟩ := hel hl
  refine ⟨b, o, ea, hK, hb, fun k x hx => ?_⟩
  have hk : k < l.length := (List.getElem?_eq_some_iff.1 hx).1
  have t := hc.2 k x hx
  obtain ⟨ad, cd, e4, _⟩ := t.bytes
  exact ⟨ad, cd, (hcell k (by omega)).trans (congrArg some e4), by rw [← e4]; exact t⟩
/-- bodies in a row of the call's own; their bytes in KD -/
def BdP (KD : Nat → Prop) (B : Nat) (w : World) (v : Value) (l : List (List Nat)) : Prop :=
  ∃ xs, Own (fun b => v.ownBlock = some b) w 22 1 v l.length xs ∧ (∀ b, v.ownBlock = some b → B ≤ b) ∧ BdL (fun b => KD b ∧ v.ownBlock ≠ some b) w xs l
theorem BdP.nil (KD : Nat → Prop) (B : Nat) (w : World) : BdP KD B w (.slice none 0 0) [] := ⟨[], Own.nil _ _ _ _, fun b h => by simp [Value.ownBlock] at h, BdL.nil _ _⟩
theorem BdP.bds {KD : Nat → Prop} {B : Nat} {w : World} {v : Value} {l : List (List Nat)} (h : BdP KD B w v l) : Bds (fun b => KD b ∨ B ≤ b) w v l := by
  obtain ⟨xs, h1, h2, h3⟩ := h
  exact ⟨xs, h1.row.mono (fun b _ hb => .inr (h2 b hb)), h3.mono (fun b _ hb => .inl hb.1)⟩
theorem BdP.keep {KD : Nat → Prop} {B : Nat} {S : Nat → Prop} {w w' : World} {v : Value} {l : List (List Nat)} (h : BdP KD B w v l) (hk : Keeps S w w') (hd : ∀ b, b < w.heap.size → (KD b ∨ B ≤ b) → ¬ S b) : BdP KD B w' v l := by
  obtain ⟨xs, h1, h2, h3⟩ := h
  exact ⟨xs, h1.keep hk (fun b hb hh => hd b hb (.inr (h2 b hh))), h2, h3.keep hk (fun b hb hh => hd b hb (.inl hh.1))⟩
theorem bdp_append {KD : Nat → Prop} {B : Nat} {wr V w7 : World} {v v7 : Value} {l m : List (List Nat)} {xs ns : List Value}
    (hge : ∀ b, v.ownBlock = some b → B ≤ b) (hc : BdL (fun b => KD b ∧ v.ownBlock ≠ some b) wr xs l)
    (hV : Keeps (fun _ => False) wr V) (hs : BdL (fun b => KD b ∧ v.ownBlock ≠ some b) V ns m) (hB : B ≤ V.heap.size)
    (h7 : Own (fun k => v.ownBlock = some k ∨ V.heap.size ≤ k) w7 22 1 v7 (l.length + m.length) (xs ++ ns)) (hk7 : Keeps (fun b => v.ownBlock = some b) V w7) :
    BdP KD B w7 v7 (l ++ m) := by
  have zV := hV.size
  have key : ∀ b, b < V.heap.size → (KD b ∧ v.ownBlock ≠ some b) → (KD b ∧ v7.ownBlock ≠ some b) ∧ v.ownBlock ≠ some b := fun b hb h => ⟨⟨h.1, fun e => by
    rcases h7.2 b e with h' | h'
    · exact h.2 h'
    · omega⟩, h.2⟩
  refine ⟨_, ⟨by rw [List.length_append]; exact h7.1, fun _ h => h⟩, fun b hb => ?_, ?_⟩
  · rcases h7.2 b hb with h | h
    · exact hge b h
    · omega
  · exact ((((hc.keep hV (fun _ _ _ h => h)).append hs).mono key).keep hk7 (fun b _ h1 h2 => h1.2 h2)).mono (fun b _ h => h.1)
theorem infoBd : (Tryd.prog.info? 22).map (fun i => (i.zero, i.size, i.bytes)) = some (some (.slice none 0 0), 1, 24) := by kernel_rfl
end Go.Proofs.YthoikljmokkchaaDoor
