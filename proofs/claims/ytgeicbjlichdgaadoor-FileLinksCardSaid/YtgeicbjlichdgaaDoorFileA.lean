/- File: segments, and what Cut and Answer return. -/
import Derived.Test.YtgeicbjlichdgaaDoorCrcC
import Derived.Test.YtgeicbjlichdgaaDoorCrcOS
import Derived.Test.YtgeicbjlichdgaaDoorHeld
import Derived.Test.YtgeicbjlichdgaaDoorStepRow
import Derived.Laws.OwnMore
namespace Go.Proofs.YtgeicbjlichdgaaDoor
open Go.RowKit
attribute [local go_sem ↓] Go.wp_at_zero Go.wp_at_succ
/-- a segment: its file, offset, total, sum, bytes -/
structure Seg where
  f : Int
  o : Int
  t : Int
  s : Nat
  d : List Nat
def pieceL (id : Int) (b : List Nat) (u z : Int) : Nat → Int → List Seg
  | 0, _ => []
  | n + 1, a => if a < u then ⟨id, a, b.length, Cr.crc b, (b.take (min (a + z) u).toNat).drop a.toNat⟩ :: pieceL id b u z n (a + z) else []
def rangeS (id : Int) (b : List Nat) (lo u z : Int) : List Seg := pieceL id b u z (u - lo).toNat lo
def fitsL (b : List Nat) (z : Int) : Int := if z < 1 ∨ 256 < z then 1 else if 65536 < b.length then 2 else 0
def gapR (id : Int) (b : List Nat) (z : Int) (g : Int × Int) : List Seg := rangeS id b (max g.1 0) (min g.2 b.length) z
def answerL (id : Int) (b : List Nat) (gs : List (Int × Int)) (z : Int) : List Seg :=
  if fitsL b z ≠ 0 ∨ gs = [] then [] else if b = [] then [⟨id, 0, 0, 0, []⟩] else gs.flatMap (gapR id b z)
def cutL (id : Int) (b : List Nat) (z : Int) : List Seg := if fitsL b z ≠ 0 then [] else answerL id b [(0, b.length)] z
theorem pieceL_end {id : Int} {b : List Nat} {u z : Int} : ∀ {n : Nat} {a : Int}, u ≤ a → pieceL id b u z n a = []
  | 0, _, _ => rfl
  | n + 1, a, h => by unfold pieceL; rw [if_neg (by omega)]
theorem pieceL_fuel {id : Int} {b : List Nat} {u z : Int} (hz : 1 ≤ z) : ∀ {n m : Nat} {a : Int}, u - a ≤ n → u - a ≤ m → pieceL id b u z n a = pieceL id b u z m a
  | 0, m, a, h1, h2 => by rw [pieceL_end (by omega), pieceL_end (by omega)]
  | n + 1, 0, a, h1, h2 => by rw [pieceL_end (by omega), pieceL_end (by omega)]
  | n + 1, m + 1, a, h1, h2 => by
    unfold pieceL
    by_cases h : a < u
    · rw [if_pos h, if_pos h, pieceL_fuel hz (n := n) (m := m) (a := a + z) (by omega) (by omega)]
    · rw [if_neg h, if_neg h]
/-- one step of the range -/
theorem rangeS_step {id : Int} {b : List Nat} {a u z : Int} (hz : 1 ≤ z) (h : a < u) : rangeS id b a u z = ⟨id, a, b.length, Cr.crc b, (b.take (min (a + z) u).toNat).drop a.toNat⟩ :: rangeS id b (a + z) u z := by
  unfold rangeS
  obtain ⟨n, hn⟩ : ∃ n, (u - a).toNat = n + 1 := ⟨(u - a).toNat - 1, by omega⟩
  rw [hn]
  show (if a < u then _ else _) = _
  rw [if_pos h, pieceL_fuel hz (n := n) (m := (u - (a + z)).toNat) (by omega) (by omega)]
theorem rangeS_end {id : Int} {b : List Nat} {a u z : Int} (h : u ≤ a) : rangeS id b a u z = [] := pieceL_end h
theorem pieceL_len {id : Int} {b : List Nat} {u z : Int} : ∀ {n : Nat} {a : Int}, (pieceL id b u z n a).length ≤ n
  | 0, _ => Nat.le_refl _
  | n + 1, a => by
    unfold pieceL
    split
    · rw [List.length_cons]; have := pieceL_len (id := id) (b := b) (u := u) (z := z) (n := n) (a := a + z); omega
    · simp
theorem rangeS_len {id : Int} {b : List Nat} {a u z : Int} (ha : 0 ≤ a) (hu : u ≤ b.length) : (rangeS id b a u z).length ≤ b.length := by
  have := pieceL_len (id := id) (b := b) (u := u) (z := z) (n := (u - a).toNat) (a := a)
  unfold rangeS; omega
theorem flat_len_le {α β : Type} (f : α → List β) (m : Nat) (hf : ∀ x, (f x).length ≤ m) (l : List α) : (l.flatMap f).length ≤ l.length * m := by
  induction l with
  | nil => simp
  | cons x l ih => rw [List.flatMap_cons, List.length_append, List.length_cons, Nat.add_mul]; have := hf x; omega
theorem gapR_len (id : Int) (b : List Nat) (z : Int) (g : Int × Int) : (gapR id b z g).length ≤ b.length := rangeS_len (by omega) (by omega)
def SgCells (K : Nat → Prop) (w : World) (c : Nat → Value) (x : Seg) : Prop :=
  c 0 = .int .i64 x.f ∧ c 1 = .int .i64 x.o ∧ c 2 = .int .i64 x.t ∧ c 3 = .int .u32 (x.s : Int) ∧ Sl K w (c 4) (u8s x.d)
theorem SgCells.keep {K S : Nat → Prop} {w w' : World} {c : Nat → Value} {x : Seg} (h : SgCells K w c x) (hk : Keeps S w w') (hd : ∀ b, b < w.heap.size → K b → ¬ S b) : SgCells K w' c x := ⟨h.1, h.2.1, h.2.2.1, h.2.2.2.1, h.2.2.2.2.keep hk hd⟩
theorem SgCells.mono {K K' : Nat → Prop} {w : World} {c : Nat → Value} {x : Seg} (h : SgCells K w c x) (hd : ∀ b, b < w.heap.size → K b → K' b) : SgCells K' w c x := ⟨h.1, h.2.1, h.2.2.1, h.2.2.2.1, h.2.2.2.2.mono hd⟩
theorem SgCells.congr {K : Nat → Prop} {w : World} {c c' : Nat → Value} {x : Seg} (h : SgCells K w c x) (e : ∀ j, j < 5 → c' j = c j) : SgCells K w c' x := by
  obtain ⟨h0, h1, h2, h3, h4⟩ := h
  exact ⟨(e 0 (by omega)).trans h0, (e 1 (by omega)).trans h1, (e 2 (by omega)).trans h2, (e 3 (by omega)).trans h3, by rw [e 4 (by omega)]; exact h4⟩
def SgC (K : Nat → Prop) (w : World) (xs : List Value) (l : List Seg) : Prop := xs.length = l.length * 5 ∧ ∀ i x, l[i]? = some x → SgCells K w (fun j => xs.getD (i * 5 + j) undef) x
theorem SgC.keep {K S : Nat → Prop} {w w' : World} {xs : List Value} {l : List Seg} (h : SgC K w xs l) (hk : Keeps S w w') (hd : ∀ b, b < w.heap.size → K b → ¬ S b) : SgC K w' xs l := ⟨h.1, fun i x hi => (h.2 i x hi).keep hk hd⟩
theorem SgC.mono {K K' : Nat → Prop} {w : World} {xs : List Value} {l : List Seg} (h : SgC K w xs l) (hd : ∀ b, b < w.heap.size → K b → K' b) : SgC K' w xs l := ⟨h.1, fun i x hi => (h.2 i x hi).mono hd⟩
theorem SgC.nil (K : Nat → Prop) (w : World) : SgC K w [] [] := ⟨rfl, fun i x h => by simp at h⟩
theorem SgC.append {K : Nat → Prop} {w : World} {xs ys : List Value} {l m : List Seg} (h : SgC K w xs l) (h2 : SgC K w ys m) : SgC K w (xs ++ ys) (l ++ m) := by
  refine ⟨by rw [List.length_append, List.length_append, h.1, h2.1]; omega, fun i y hi => ?_⟩
  rcases Nat.lt_or_ge i l.length with hl | hl
  · rw [List.getElem?_append_left hl] at hi
    refine (h.2 i y hi).congr (fun j hj => ?_)
    unfold List.getD
    rw [List.getElem?_append_left (by rw [h.1]; omega)]
  · rw [List.getElem?_append_right hl] at hi
    refine (h2.2 _ y hi).congr (fun j hj => ?_)
    unfold List.getD
    rw [List.getElem?_append_right (by rw [h.1]; omega), h.1]
    congr 2; omega
theorem SgC.one {K : Nat → Prop} {w : World} {x : Seg} {a : Option Addr} {c : Nat} (h : Sl K w (.slice a x.d.length c) (u8s x.d)) : SgC K w [.int .i64 x.f, .int .i64 x.o, .int .i64 x.t, .int .u32 (x.s : Int), .slice a x.d.length c] [x] := by
  refine ⟨rfl, fun i y hi => ?_⟩
  match i, hi with
  | 0, hi => simp at hi; subst hi; exact ⟨rfl, rfl, rfl, rfl, h⟩
  | i + 1, hi => simp at hi
theorem SgC.ones {K : Nat → Prop} {w : World} {xs : List Value} {l : List Seg} (h : SgC K w xs l) : ∀ u ∈ xs, u.oneCell' = true := by
  intro u hu
  obtain ⟨p, hp, rfl⟩ := List.getElem_of_mem hu
  have hl := h.1
  have hi : p / 5 < l.length := by omega
  have key : ∀ j, p % 5 = j → xs[p] = xs.getD (p / 5 * 5 + j) undef := fun j hj => by
    have : p / 5 * 5 + j = p := by omega
    rw [this, List.getD, List.getElem?_eq_getElem hp]; rfl
  obtain ⟨c0, c1, c2, c3, c4⟩ := h.2 _ _ (List.getElem?_eq_getElem hi)
  rcases (show p % 5 = 0 ∨ p % 5 = 1 ∨ p % 5 = 2 ∨ p % 5 = 3 ∨ p % 5 = 4 by omega) with hj | hj | hj | hj | hj
  · rw [key 0 hj]; exact (congrArg Value.oneCell' c0).trans rfl
  · rw [key 1 hj]; exact (congrArg Value.oneCell' c1).trans rfl
  · rw [key 2 hj]; exact (congrArg Value.oneCell' c2).trans rfl
  · rw [key 3 hj]; exact (congrArg Value.oneCell' c3).trans rfl
  · rw [key 4 hj]
    obtain ⟨a, cap, e, _⟩ := c4.bytes
    exact (congrArg Value.oneCell' e).trans rfl
def Sgs (K : Nat → Prop) (w : World) (v : Value) (l : List Seg) : Prop := ∃ xs, Row K w 5 v l.length xs ∧ SgC K w xs l
theorem Sgs.keep {K S : Nat → Prop} {w w' : World} {v : Value} {l : List Seg} (h : Sgs K w v l) (hk : Keeps S w w') (hd : ∀ b, b < w.heap.size → K b → ¬ S b) : Sgs K w' v l := by
  obtain ⟨xs, h1, h2⟩ := h
  exact ⟨xs, h1.keep hk hd, h2.keep hk hd⟩
theorem Sgs.mono {K K' : Nat → Prop} {w : World} {v : Value} {l : List Seg} (h : Sgs K w v l) (hd : ∀ b, b < w.heap.size → K b → K' b) : Sgs K' w v l := by
  obtain ⟨xs, h1, h2⟩ := h
  exact ⟨xs, h1.mono hd, h2.mono hd⟩
theorem Sgs.nil (K : Nat → Prop) (w : World) : Sgs K w (.slice none 0 0) [] := ⟨[], ⟨rfl, .inl ⟨rfl, rfl⟩⟩, SgC.nil _ _⟩
theorem Sgs.form {K : Nat → Prop} {w : World} {v : Value} {l : List Seg} (h : Sgs K w v l) : ∃ a c, v = .slice a l.length c ∧ l.length ≤ c ∧ c ≤ maxLen := by
  obtain ⟨xs, h1, _⟩ := h
  obtain ⟨a, c, e, g1, g2, _⟩ := h1.form
  exact ⟨a, c, e, g1, g2⟩
/-- segments in a row of the call's own; their bytes in KD -/
def SgP (KD : Nat → Prop) (B : Nat) (w : World) (v : Value) (l : List Seg) : Prop :=
  ∃ xs, Own (fun b => v.ownBlock = some b) w 44 5 v l.length xs ∧ (∀ b, v.ownBlock = some b → B ≤ b) ∧ SgC (fun b => KD b ∧ v.ownBlock ≠ some b) w xs l
theorem SgP.nil (KD : Nat → Prop) (B : Nat) (w : World) : SgP KD B w (.slice none 0 0) [] := ⟨[], Own.nil _ _ _ _, fun b h => by simp [Value.ownBlock] at h, SgC.nil _ _⟩
theorem SgP.sgs {KD : Nat → Prop} {B : Nat} {w : World} {v : Value} {l : List Seg} (h : SgP KD B w v l) : Sgs (fun b => KD b ∨ B ≤ b) w v l := by
  obtain ⟨xs, h1, h2, h3⟩ := h
  exact ⟨xs, h1.row.mono (fun b _ hb => .inr (h2 b hb)), h3.mono (fun b _ hb => .inl hb.1)⟩
theorem SgP.keep {KD : Nat → Prop} {B : Nat} {S : Nat → Prop} {w w' : World} {v : Value} {l : List Seg} (h : SgP KD B w v l) (hk : Keeps S w w') (hd : ∀ b, b < w.heap.size → (KD b ∨ B ≤ b) → ¬ S b) : SgP KD B w' v l := by
  obtain ⟨xs, h1, h2, h3⟩ := h
  exact ⟨xs, h1.keep hk (fun b hb hh => hd b hb (.inr (h2 b hh))), h2, h3.keep hk (fun b hb hh => hd b hb (.inl hh.1))⟩
theorem sgp_append {KD : Nat → Prop} {B : Nat} {wr V w7 : World} {v v7 : Value} {l m : List Seg} {xs ns : List Value}
    (hge : ∀ b, v.ownBlock = some b → B ≤ b) (hc : SgC (fun b => KD b ∧ v.ownBlock ≠ some b) wr xs l)
    (hV : Keeps (fun _ => False) wr V) (hs : SgC (fun b => KD b ∧ v.ownBlock ≠ some b) V ns m) (hB : B ≤ V.heap.size)
    (h7 : Own (fun k => v.ownBlock = some k ∨ V.heap.size ≤ k) w7 44 5 v7 (l.length + m.length) (xs ++ ns)) (hk7 : Keeps (fun b => v.ownBlock = some b) V w7) :
    SgP KD B w7 v7 (l ++ m) := by
  have zV := hV.size
  have key : ∀ b, b < V.heap.size → (KD b ∧ v.ownBlock ≠ some b) → (KD b ∧ v7.ownBlock ≠ some b) ∧ v.ownBlock ≠ some b := fun b hb h => ⟨⟨h.1, fun e => by
    rcases h7.2 b e with h' | h'
    · exact h.2 h'
    · omega⟩, h.2⟩
  refine ⟨_, ⟨by rw [List.length_append]; exact h7.1, fun _ h => h⟩, fun b hb => ?_, ?_⟩
  · rcases h7.2 b hb with h | h
    · exact hge b h
    · omega
  · exact ((((hc.keep hV (fun _ _ _ h => h)).append hs).mono key).keep hk7 (fun b _ h1 h2 => h1.2 h2)).mono (fun b _ h => h.1)
theorem infoSg : (Tryd.prog.info? 44).map (fun i => (i.size, i.bytes)) = some (5, 56) := by kernel_rfl
theorem infoSgz : ((Tryd.prog.info? 44).bind (·.zero)).map (fun z => z.cells) = some #[.int .i64 0, .int .i64 0, .int .i64 0, .int .u32 0, .slice none 0 0] := by kernel_rfl
theorem sg_parts : ∃ i z, Tryd.prog.info? 44 = some i ∧ i.zero = some z ∧ i.size = 5 ∧ i.bytes = 56 ∧ z.cells.size = 5 := by
  obtain ⟨i, hi, h1⟩ := Option.map_eq_some_iff.1 infoSg
  have h2 := infoSgz
  rw [hi] at h2
  obtain ⟨z, hz, h3⟩ := Option.map_eq_some_iff.1 h2
  simp only [Prod.mk.injEq] at h1
  exact ⟨i, z, hi, hz, h1.1, h1.2, by rw [h3]; rfl⟩
theorem info_u8 : ∃ i0, Tryd.prog.info? 5 = some i0 ∧ i0.zero = some (.int .u8 0) ∧ i0.size = 1 ∧ i0.bytes = 1 := info_parts Cr.infoU8
/-- a row of values laid out by a literal -/
theorem lit_rowF (w : World) (cs : Array Value) (t : TypeId) (n size : Nat) (h : cs.size = n * size) (hm : n ≤ maxLen) : Row (fun _ => True) (w.alloc (.cells cs t)) size (.slice (some ⟨w.heap.size, 0, none⟩) n n) n cs.toList :=
  Own.row (S := fun _ => True) ⟨World.ownsRow_lit (base := 0) (e := t) w cs n (Nat.zero_le _) hm h, fun _ _ => trivial⟩
set_option maxRecDepth 100000 in set_option maxHeartbeats 1000000 in
theorem fits_any (v : Value) (b : List Nat) (z : Int) (K : Nat → Prop) (w : World) (hv : Sl K w v (u8s b)) :
    Calls Tryd.prog 39 #[v, .int .i64 z] w fun e w' => e = .returned (.int .i64 (fitsL b z)) ∧ w = w' := by
  obtain ⟨a, cap, rfl, _⟩ := hv.bytes
  clear hv
  unfold fitsL
  generalize b.length = n
  go_enter Tryd.func39, Tryd.ntmps39
  by_cases h1 : z < 1
  · have d1 : decide (z < 1) = true := by simp; exact h1
    go_wp2
    go_ret
    exact ⟨rfl, rfl⟩
  · have d1 : decide (z < 1) = false := by simp; omega
    by_cases h2 : 256 < z
    · have d2 : decide (256 < z) = true := by simp; exact h2
      go_wp2
      go_ret
      exact ⟨rfl, rfl⟩
    · have d2 : decide (256 < z) = false := by simp; omega
      have HE : Hd (¬ (z < 1 ∨ 256 < z)) := hid (by omega)
      by_cases h3 : 65536 < n
      · have d3 : decide ((65536 : Int) < n) = true := by simp; omega
        go_wp2
        go_ret
        exact ⟨rfl, rfl⟩
      · have d3 : decide ((65536 : Int) < n) = false := by simp; omega
        go_wp2
        go_ret
        exact ⟨rfl, rfl⟩
end Go.Proofs.YtgeicbjlichdgaaDoor
