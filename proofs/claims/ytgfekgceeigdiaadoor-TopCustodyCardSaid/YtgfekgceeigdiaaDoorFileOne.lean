/- Custody: FileA, FileB, FileC, FileD, FileE, FileF, FileG: walks and plain facts. -/
import Derived.Test.YtgfekgceeigdiaaDoorCrcAll
import Derived.Test.YtgfekgceeigdiaaDoorBaseAll
import Derived.Laws.OwnMore
import Derived.Deep.RegionHeldLaw
import Derived.StillTailTactics
namespace Go.Proofs.YtgfekgceeigdiaaDoor
open Go.RowKit
attribute [local go_sem ↓] Go.wp_at_zero Go.wp_at_succ
/-- a segment: its file, offset, total, sum, bytes -/
structure Seg where
  f : Int
  o : Int
  t : Int
  s : Nat
  d : List Nat
def pieceL (id : Int) (b : List Nat) (u z : Int) : Nat → Int → List Seg
  | 0, _ => []
  | n + 1, a => if a < u then ⟨id, a, b.length, Cr.crc b, (b.take (min (a + z) u).toNat).drop a.toNat⟩ :: pieceL id b u z n (a + z) else []
def rangeS (id : Int) (b : List Nat) (lo u z : Int) : List Seg := pieceL id b u z (u - lo).toNat lo
def fitsL (b : List Nat) (z : Int) : Int := if z < 1 ∨ 256 < z then 1 else if 65536 < b.length then 2 else 0
def gapR (id : Int) (b : List Nat) (z : Int) (g : Int × Int) : List Seg := rangeS id b (max g.1 0) (min g.2 b.length) z
def answerL (id : Int) (b : List Nat) (gs : List (Int × Int)) (z : Int) : List Seg :=
  if fitsL b z ≠ 0 ∨ gs = [] then [] else if b = [] then [⟨id, 0, 0, 0, []⟩] else gs.flatMap (gapR id b z)
def cutL (id : Int) (b : List Nat) (z : Int) : List Seg := if fitsL b z ≠ 0 then [] else answerL id b [(0, b.length)] z
theorem pieceL_end {id : Int} {b : List Nat} {u z : Int} : ∀ {n : Nat} {a : Int}, u ≤ a → pieceL id b u z n a = []
  | 0, _, _ => rfl
  | n + 1, a, h => by unfold pieceL; rw [if_neg (by omega)]
theorem pieceL_fuel {id : Int} {b : List Nat} {u z : Int} (hz : 1 ≤ z) : ∀ {n m : Nat} {a : Int}, u - a ≤ n → u - a ≤ m → pieceL id b u z n a = pieceL id b u z m a
  | 0, m, a, h1, h2 => by rw [pieceL_end (by omega), pieceL_end (by omega)]
  | n + 1, 0, a, h1, h2 => by rw [pieceL_end (by omega), pieceL_end (by omega)]
  | n + 1, m + 1, a, h1, h2 => by
    unfold pieceL
    by_cases h : a < u
    · rw [if_pos h, if_pos h, pieceL_fuel hz (n := n) (m := m) (a := a + z) (by omega) (by omega)]
    · rw [if_neg h, if_neg h]
/-- one step of the range -/
theorem rangeS_step {id : Int} {b : List Nat} {a u z : Int} (hz : 1 ≤ z) (h : a < u) : rangeS id b a u z = ⟨id, a, b.length, Cr.crc b, (b.take (min (a + z) u).toNat).drop a.toNat⟩ :: rangeS id b (a + z) u z := by
  unfold rangeS
  obtain ⟨n, hn⟩ : ∃ n, (u - a).toNat = n + 1 := ⟨(u - a).toNat - 1, by omega⟩
  rw [hn]
  show (if a < u then _ else _) = _
  rw [if_pos h, pieceL_fuel hz (n := n) (m := (u - (a + z)).toNat) (by omega) (by omega)]
theorem rangeS_end {id : Int} {b : List Nat} {a u z : Int} (h : u ≤ a) : rangeS id b a u z = [] := pieceL_end h
theorem pieceL_len {id : Int} {b : List Nat} {u z : Int} : ∀ {n : Nat} {a : Int}, (pieceL id b u z n a).length ≤ n
  | 0, _ => Nat.le_refl _
  | n + 1, a => by
    unfold pieceL
    split
    · rw [List.length_cons]; have := pieceL_len (id := id) (b := b) (u := u) (z := z) (n := n) (a := a + z); omega
    · simp
theorem rangeS_len {id : Int} {b : List Nat} {a u z : Int} (ha : 0 ≤ a) (hu : u ≤ b.length) : (rangeS id b a u z).length ≤ b.length := by
  have := pieceL_len (id := id) (b := b) (u := u) (z := z) (n := (u - a).toNat) (a := a)
  unfold rangeS; omega
theorem flat_len_le {α β : Type} (f : α → List β) (m : Nat) (hf : ∀ x, (f x).length ≤ m) (l : List α) : (l.flatMap f).length ≤ l.length * m := by
  induction l with
  | nil => simp
  | cons x l ih => rw [List.flatMap_cons, List.length_append, List.length_cons, Nat.add_mul]; have := hf x; omega
theorem gapR_len (id : Int) (b : List Nat) (z : Int) (g : Int × Int) : (gapR id b z g).length ≤ b.length := rangeS_len (by omega) (by omega)
def SgCells (K : Nat → Prop) (w : World) (c : Nat → Value) (x : Seg) : Prop :=
  c 0 = .int .i64 x.f ∧ c 1 = .int .i64 x.o ∧ c 2 = .int .i64 x.t ∧ c 3 = .int .u32 (x.s : Int) ∧ Sl K w (c 4) (u8s x.d)
theorem SgCells.keep {K S : Nat → Prop} {w w' : World} {c : Nat → Value} {x : Seg} (h : SgCells K w c x) (hk : Keeps S w w') (hd : ∀ b, b < w.heap.size → K b → ¬ S b) : SgCells K w' c x := ⟨h.1, h.2.1, h.2.2.1, h.2.2.2.1, h.2.2.2.2.keep hk hd⟩
theorem SgCells.mono {K K' : Nat → Prop} {w : World} {c : Nat → Value} {x : Seg} (h : SgCells K w c x) (hd : ∀ b, b < w.heap.size → K b → K' b) : SgCells K' w c x := ⟨h.1, h.2.1, h.2.2.1, h.2.2.2.1, h.2.2.2.2.mono hd⟩
theorem SgCells.congr {K : Nat → Prop} {w : World} {c c' : Nat → Value} {x : Seg} (h : SgCells K w c x) (e : ∀ j, j < 5 → c' j = c j) : SgCells K w c' x := by
  obtain ⟨h0, h1, h2, h3, h4⟩ := h
  exact ⟨(e 0 (by omega)).trans h0, (e 1 (by omega)).trans h1, (e 2 (by omega)).trans h2, (e 3 (by omega)).trans h3, by rw [e 4 (by omega)]; exact h4⟩
def SgC (K : Nat → Prop) (w : World) (xs : List Value) (l : List Seg) : Prop := xs.length = l.length * 5 ∧ ∀ i x, l[i]? = some x → SgCells K w (fun j => xs.getD (i * 5 + j) undef) x
theorem SgC.keep {K S : Nat → Prop} {w w' : World} {xs : List Value} {l : List Seg} (h : SgC K w xs l) (hk : Keeps S w w') (hd : ∀ b, b < w.heap.size → K b → ¬ S b) : SgC K w' xs l := ⟨h.1, fun i x hi => (h.2 i x hi).keep hk hd⟩
theorem SgC.mono {K K' : Nat → Prop} {w : World} {xs : List Value} {l : List Seg} (h : SgC K w xs l) (hd : ∀ b, b < w.heap.size → K b → K' b) : SgC K' w xs l := ⟨h.1, fun i x hi => (h.2 i x hi).mono hd⟩
theorem SgC.nil (K : Nat → Prop) (w : World) : SgC K w [] [] := ⟨rfl, fun i x h => by simp at h⟩
theorem SgC.append {K : Nat → Prop} {w : World} {xs ys : List Value} {l m : List Seg} (h : SgC K w xs l) (h2 : SgC K w ys m) : SgC K w (xs ++ ys) (l ++ m) := by
  refine ⟨by rw [List.length_append, List.length_append, h.1, h2.1]; omega, fun i y hi => ?_⟩
  rcases Nat.lt_or_ge i l.length with hl | hl
  · rw [List.getElem?_append_left hl] at hi
    refine (h.2 i y hi).congr (fun j hj => ?_)
    unfold List.getD
    rw [List.getElem?_append_left (by rw [h.1]; omega)]
  · rw [List.getElem?_append_right hl] at hi
    refine (h2.2 _ y hi).congr (fun j hj => ?_)
    unfold List.getD
    rw [List.getElem?_append_right (by rw [h.1]; omega), h.1]
    congr 2; omega
theorem SgC.one {K : Nat → Prop} {w : World} {x : Seg} {a : Option Addr} {c : Nat} (h : Sl K w (.slice a x.d.length c) (u8s x.d)) : SgC K w [.int .i64 x.f, .int .i64 x.o, .int .i64 x.t, .int .u32 (x.s : Int), .slice a x.d.length c] [x] := by
  refine ⟨rfl, fun i y hi => ?_⟩
  match i, hi with
  | 0, hi => simp at hi; subst hi; exact ⟨rfl, rfl, rfl, rfl, h⟩
  | i + 1, hi => simp at hi
theorem SgC.ones {K : Nat → Prop} {w : World} {xs : List Value} {l : List Seg} (h : SgC K w xs l) : ∀ u ∈ xs, u.oneCell' = true := by
  intro u hu
  obtain ⟨p, hp, rfl⟩ := List.getElem_of_mem hu
  have hl := h.1
  have hi : p / 5 < l.length := by omega
  have key : ∀ j, p % 5 = j → xs[p] = xs.getD (p / 5 * 5 + j) undef := fun j hj => by
    have : p / 5 * 5 + j = p := by omega
    rw [this, List.getD, List.getElem?_eq_getElem hp]; rfl
  obtain ⟨c0, c1, c2, c3, c4⟩ := h.2 _ _ (List.getElem?_eq_getElem hi)
  rcases (show p % 5 = 0 ∨ p % 5 = 1 ∨ p % 5 = 2 ∨ p % 5 = 3 ∨ p % 5 = 4 by omega) with hj | hj | hj | hj | hj
  · rw [key 0 hj]; exact (congrArg Value.oneCell' c0).trans rfl
  · rw [key 1 hj]; exact (congrArg Value.oneCell' c1).trans rfl
  · rw [key 2 hj]; exact (congrArg Value.oneCell' c2).trans rfl
  · rw [key 3 hj]; exact (congrArg Value.oneCell' c3).trans rfl
  · rw [key 4 hj]
    obtain ⟨a, cap, e, _⟩ := c4.bytes
    exact (congrArg Value.oneCell' e).trans rfl
def Sgs (K : Nat → Prop) (w : World) (v : Value) (l : List Seg) : Prop := ∃ xs, Row K w 5 v l.length xs ∧ SgC K w xs l
theorem Sgs.keep {K S : Nat → Prop} {w w' : World} {v : Value} {l : List Seg} (h : Sgs K w v l) (hk : Keeps S w w') (hd : ∀ b, b < w.heap.size → K b → ¬ S b) : Sgs K w' v l := by
  obtain ⟨xs, h1, h2⟩ := h
  exact ⟨xs, h1.keep hk hd, h2.keep hk hd⟩
theorem Sgs.mono {K K' : Nat → Prop} {w : World} {v : Value} {l : List Seg} (h : Sgs K w v l) (hd : ∀ b, b < w.heap.size → K b → K' b) : Sgs K' w v l := by
  obtain ⟨xs, h1, h2⟩ := h
  exact ⟨xs, h1.mono hd, h2.mono hd⟩
theorem Sgs.nil (K : Nat → Prop) (w : World) : Sgs K w (.slice none 0 0) [] := ⟨[], ⟨rfl, .inl ⟨rfl, rfl⟩⟩, SgC.nil _ _⟩
theorem Sgs.form {K : Nat → Prop} {w : World} {v : Value} {l : List Seg} (h : Sgs K w v l) : ∃ a c, v = .slice a l.length c ∧ l.length ≤ c ∧ c ≤ maxLen := by
  obtain ⟨xs, h1, _⟩ := h
  obtain ⟨a, c, e, g1, g2, _⟩ := h1.form
  exact ⟨a, c, e, g1, g2⟩
/-- segments in a row of the call's own; their bytes in KD -/
def SgP (KD : Nat → Prop) (B : Nat) (w : World) (v : Value) (l : List Seg) : Prop :=
  ∃ xs, Own (fun b => v.ownBlock = some b) w 57 5 v l.length xs ∧ (∀ b, v.ownBlock = some b → B ≤ b) ∧ SgC (fun b => KD b ∧ v.ownBlock ≠ some b) w xs l
theorem SgP.nil (KD : Nat → Prop) (B : Nat) (w : World) : SgP KD B w (.slice none 0 0) [] := ⟨[], Own.nil _ _ _ _, fun b h => by simp [Value.ownBlock] at h, SgC.nil _ _⟩
theorem SgP.sgs {KD : Nat → Prop} {B : Nat} {w : World} {v : Value} {l : List Seg} (h : SgP KD B w v l) : Sgs (fun b => KD b ∨ B ≤ b) w v l := by
  obtain ⟨xs, h1, h2, h3⟩ := h
  exact ⟨xs, h1.row.mono (fun b _ hb => .inr (h2 b hb)), h3.mono (fun b _ hb => .inl hb.1)⟩
theorem SgP.keep {KD : Nat → Prop} {B : Nat} {S : Nat → Prop} {w w' : World} {v : Value} {l : List Seg} (h : SgP KD B w v l) (hk : Keeps S w w') (hd : ∀ b, b < w.heap.size → (KD b ∨ B ≤ b) → ¬ S b) : SgP KD B w' v l := by
  obtain ⟨xs, h1, h2, h3⟩ := h
  exact ⟨xs, h1.keep hk (fun b hb hh => hd b hb (.inr (h2 b hh))), h2, h3.keep hk (fun b hb hh => hd b hb (.inl hh.1))⟩
theorem sgp_append {KD : Nat → Prop} {B : Nat} {wr V w7 : World} {v v7 : Value} {l m : List Seg} {xs ns : List Value}
    (hge : ∀ b, v.ownBlock = some b → B ≤ b) (hc : SgC (fun b => KD b ∧ v.ownBlock ≠ some b) wr xs l)
    (hV : Keeps (fun _ => False) wr V) (hs : SgC (fun b => KD b ∧ v.ownBlock ≠ some b) V ns m) (hB : B ≤ V.heap.size)
    (h7 : Own (fun k => v.ownBlock = some k ∨ V.heap.size ≤ k) w7 57 5 v7 (l.length + m.length) (xs ++ ns)) (hk7 : Keeps (fun b => v.ownBlock = some b) V w7) :
    SgP KD B w7 v7 (l ++ m) := by
  have zV := hV.size
  have key : ∀ b, b < V.heap.size → (KD b ∧ v.ownBlock ≠ some b) → (KD b ∧ v7.ownBlock ≠ some b) ∧ v.ownBlock ≠ some b := fun b hb h => ⟨⟨h.1, fun e => by
    rcases h7.2 b e with h' | h'
    · exact h.2 h'
    · omega⟩, h.2⟩
  refine ⟨_, ⟨by rw [List.length_append]; exact h7.1, fun _ h => h⟩, fun b hb => ?_, ?_⟩
  · rcases h7.2 b hb with h | h
    · exact hge b h
    · omega
  · exact ((((hc.keep hV (fun _ _ _ h => h)).append hs).mono key).keep hk7 (fun b _ h1 h2 => h1.2 h2)).mono (fun b _ h => h.1)
theorem infoSg : (Tryd.prog.info? 57).map (fun i => (i.size, i.bytes)) = some (5, 56) := by kernel_rfl
theorem infoSgz : ((Tryd.prog.info? 57).bind (·.zero)).map (fun z => z.cells) = some #[.int .i64 0, .int .i64 0, .int .i64 0, .int .u32 0, .slice none 0 0] := by kernel_rfl
theorem sg_parts : ∃ i z, Tryd.prog.info? 57 = some i ∧ i.zero = some z ∧ i.size = 5 ∧ i.bytes = 56 ∧ z.cells.size = 5 := by
  obtain ⟨i, hi, h1⟩ := Option.map_eq_some_iff.1 infoSg
  have h2 := infoSgz
  rw [hi] at h2
  obtain ⟨z, hz, h3⟩ := Option.map_eq_some_iff.1 h2
  simp only [Prod.mk.injEq] at h1
  exact ⟨i, z, hi, hz, h1.1, h1.2, by rw [h3]; rfl⟩
theorem info_u8 : ∃ i0, Tryd.prog.info? 5 = some i0 ∧ i0.zero = some (.int .u8 0) ∧ i0.size = 1 ∧ i0.bytes = 1 := info_parts Cr.infoU8
/-- a row of values laid out by a literal -/
theorem lit_rowF (w : World) (cs : Array Value) (t : TypeId) (n size : Nat) (h : cs.size = n * size) (hm : n ≤ maxLen) : Row (fun _ => True) (w.alloc (.cells cs t)) size (.slice (some ⟨w.heap.size, 0, none⟩) n n) n cs.toList :=
  Own.row (S := fun _ => True) ⟨World.ownsRow_lit (base := 0) (e := t) w cs n (Nat.zero_le _) hm h, fun _ _ => trivial⟩
set_option maxRecDepth 100000 in set_option maxHeartbeats 1000000 in
theorem fits_any (v : Value) (b : List Nat) (z : Int) (K : Nat → Prop) (w : World) (hv : Sl K w v (u8s b)) :
    Calls Tryd.prog 21 #[v, .int .i64 z] w fun e w' => e = .returned (.int .i64 (fitsL b z)) ∧ w = w' := by
  obtain ⟨a, cap, rfl, _⟩ := hv.bytes
  clear hv
  unfold fitsL
  generalize b.length = n
  go_enter Tryd.func21, Tryd.ntmps21
  by_cases h1 : z < 1
  · have d1 : decide (z < 1) = true := by simp; exact h1
    go_wp2
    go_ret
    exact ⟨rfl, rfl⟩
  · have d1 : decide (z < 1) = false := by simp; omega
    by_cases h2 : 256 < z
    · have d2 : decide (256 < z) = true := by simp; exact h2
      go_wp2
      go_ret
      exact ⟨rfl, rfl⟩
    · have d2 : decide (256 < z) = false := by simp; omega
      have HE : Hd (¬ (z < 1 ∨ 256 < z)) := hid (by omega)
      by_cases h3 : 65536 < n
      · have d3 : decide ((65536 : Int) < n) = true := by simp; omega
        go_wp2
        go_ret
        exact ⟨rfl, rfl⟩
      · have d3 : decide ((65536 : Int) < n) = false := by simp; omega
        go_wp2
        go_ret
        exact ⟨rfl, rfl⟩
end Go.Proofs.YtgfekgceeigdiaaDoor
namespace Go.Proofs.YtgfekgceeigdiaaDoor
open Go.RowKit
attribute [local go_sem ↓] Go.wp_at_zero Go.wp_at_succ
def SgRet (KD : Nat → Prop) (w : World) (l : List Seg) (r : Ending) (w' : World) : Prop := ∃ a n c, r = .returned (.slice a n c) ∧ n = l.length ∧ SgP KD w.heap.size w' (.slice a n c) l ∧ Keeps (fun _ => False) w w'
set_option maxRecDepth 100000 in set_option maxHeartbeats 1000000 in
theorem pieces_any (v : Value) (b : List Nat) (id lo u z : Int) (w : World) (hN : Cr.Nib w) (hv : Sl (fun k => k < w.heap.size) w v (u8s b)) (hb : ∀ c ∈ b, c < 256) (hm : b.length ≤ 65538) (h0 : 0 ≤ lo) (hu : u ≤ b.length) (h1 : 1 ≤ z ∧ z ≤ 256) :
    Calls Tryd.prog 41 #[.int .i64 id, v, .int .i64 lo, .int .i64 u, .int .i64 z] w fun e w' => SgRet (fun k => w.heap.size ≤ k) w (rangeS id b lo u z) e w' := by
  obtain ⟨i0, zz, hi, hz0, hz1, hz2, hz3⟩ := sg_parts
  obtain ⟨i8, hi8, hy0, hy1, hy2⟩ := info_u8
  have HN := hid hN; have HB := hid hb; have HV := hid hv
  obtain ⟨av, cv, rfl, _⟩ := hv.bytes
  clear hN hb hv
  generalize hbl : b.length = n at *
  have HBL := hid hbl; clear hbl
  go_enter Tryd.func41, Tryd.ntmps41
  go_wp2_with fail
  refine (Cr.Sum_any _ _ b _ HN.out HV.out HB.out (by rw [HBL.out]; omega)).mono ?_
  rintro e w1 ⟨rfl, rfl⟩
  go_wp2_with fail
  go_loopw [11, 13] (fun lv av wr => ∃ (acc : List Seg) (a0 : Int) (a : Option Addr) (c : Nat), lv = .slice a acc.length c ∧ av = .int .i64 a0 ∧ 0 ≤ a0 ∧ Hd (acc ++ rangeS id b a0 u z = rangeS id b lo u z) ∧ Hd (SgP (fun k => w.heap.size ≤ k) w.heap.size wr (.slice a acc.length c) acc) ∧ Hd (Keeps (fun _ => False) w wr)) (fun _ x _ => (u - intOf x).toNat)
  case atStart => exact ⟨[], lo, none, 0, rfl, rfl, h0, hid rfl, hid (SgP.nil _ _ _), hid (Keeps.refl _ _)⟩
  case round =>
    obtain ⟨acc, a0, a, c, rfl, rfl, ha0, HE, HP, HK⟩ := hrel
    have hal : acc.length ≤ n := by have h := rangeS_len (id := id) (b := b) (a := lo) (u := u) (z := z) h0 (by rw [HBL.out]; exact hu); rw [← HE.out, List.length_append, HBL.out] at h; omega
    by_cases hau : a0 < u
    · have d1 : decide (a0 < u) = true := by simp; exact hau
      have u1 : IntKind.i64.wrap (a0 + z) = a0 + z := IntWalk.i64_in _ (by omega)
      obtain ⟨x, hx⟩ : ∃ x : Seg, x = ⟨id, a0, b.length, Cr.crc b, (b.take (min (a0 + z) u).toNat).drop a0.toNat⟩ := ⟨_, rfl⟩
      have HX := hid hx
      have hstep := rangeS_step (id := id) (b := b) h1.1 hau
      rw [← hx] at hstep
      have HE2 : Hd ((acc ++ [x]) ++ rangeS id b (a0 + z) u z = rangeS id b lo u z) := hid (by rw [List.append_assoc, List.singleton_append, ← hstep]; exact HE.out)
      have zr := HK.out.size
      have HVR := hid (HV.out.keep HK.out (fun _ _ _ h => h))
      have HR : Hd (Row (fun k => k < w.heap.size) wr 1 (.slice av n cv) n (u8s b)) := hid (sl_row HVR.out (by rw [u8s_length, HBL.out]))
      clear hx hstep
      have main : ∀ (e : Int), e = min (a0 + z) u → True := fun _ _ => trivial
      rcases (show a0 + z < u ∨ a0 + z = u ∨ u < a0 + z by omega) with h | h | h
      · obtain ⟨p, hp⟩ : ∃ p : Nat, (p : Int) = a0 := ⟨a0.toNat, by omega⟩
        obtain ⟨q, hq⟩ : ∃ q : Nat, (q : Int) = (a0 + z) := ⟨((a0 + z)).toNat, by omega⟩
        obtain ⟨a2, c2, hcut, hr2⟩ := run_cut (P := Tryd.prog) (t := 22) Tryd.underlying22 hi8 hy1 HR.out (lo := a0) (hh := (a0 + z)) p q hp.symm hq.symm (by omega) (by omega)
        have hd : x.d = (b.drop p).take (q - p) := by rw [HX.out]; show (b.take (min (a0 + z) u).toNat).drop a0.toNat = _; rw [List.drop_take, show (min (a0 + z) u).toNat = q by omega, show a0.toNat = p by omega]
        have hl : q - p = x.d.length := by rw [hd, List.length_take, List.length_drop, HBL.out]; omega
        have hu8 : u8s x.d = ((u8s b).drop (p * 1)).take ((q - p) * 1) := by rw [hd, Nat.mul_one, Nat.mul_one]; simp [u8s, List.map_take, List.map_drop]
        have SX : Hd (Sl (fun k => k < w.heap.size) wr (.slice a2 x.d.length c2) (u8s x.d)) := hid (by rw [hu8, ← hl]; exact row_sl hr2 (by rw [← hu8, u8s_length, hl]))
        rw [hl] at hcut
        have hxd : x.d.length ≤ 256 := by omega
        have HXF : Hd (x.f = id ∧ x.o = a0 ∧ x.t = n ∧ x.s = Cr.crc b) := hid (by rw [HX.out]; exact ⟨rfl, rfl, by show (b.length : Int) = n; rw [HBL.out], rfl⟩)
        clear hr2 hd hl hu8 hp hq
        go_wp2_with fail
        refine (Cr.CloneB_any _ _ x.d _ SX.out (by omega)).mono ?_
        rintro e w2 ⟨a3, n3, c3, rfl, hn3, ho3, hk3⟩
        obtain rfl : n3 = x.d.length := by rw [hn3, u8s_length]
        have S3 : Hd (Sl (fun k => wr.heap.size ≤ k) w2 (.slice a3 x.d.length c3) (u8s x.d)) := hid (row_sl ho3.row (by rw [u8s_length]))
        obtain ⟨xs, hxo, hge, hxc⟩ := HP.out
        have HO := hid (hxo.keep hk3 (fun _ _ _ h => h)); have HGE := hid hge; have HXC := hid hxc; have K3 := hid hk3; have HLT : Hd (∀ b, (Value.slice a acc.length c).ownBlock = some b → b < wr.heap.size) := hid (fun b hb => (hxo.1.lt b hb).2)
        have z3 := hk3.size
        clear hxo hge hxc hn3 ho3 hk3 hcut HP
        have HC1 : Hd (∀ (W : World) (K : Nat → Prop), Sl K W (.slice a3 x.d.length c3) (u8s x.d) → SgC K W [.int .i64 id, .int .i64 a0, .int .i64 (n : Int), .int .u32 (Cr.crc b : Nat), .slice a3 x.d.length c3] [x]) := hid (fun W K h => by
  have e := SgC.one h
  rw [HXF.out.1, HXF.out.2.1, HXF.out.2.2.1, HXF.out.2.2.2] at e
  exact e)
        go_wp2_with (at_builtin; refine wpList_append_row rfl (.tmp 23) (.tmp 39) 51 rfl 57 i0 zz 5 56 Tryd.underlying51 hi hz0 hz1 hz2 hz3 (by decide) _ (fun _ => True) (.slice a acc.length c) _ acc.length xs rfl (HO.out.alloc _) 1 [.int .i64 id, .int .i64 a0, .int .i64 (n : Int), .int .u32 (Cr.crc b : Nat), .slice a3 x.d.length c3] rfl (by exact lit_rowF _ _ _ 1 5 rfl (by decide)) (by intro u hu; simp at hu; rcases hu with rfl | rfl | rfl | rfl | rfl <;> rfl) (by simp [maxLen]; omega) (by omega) ?_)
        intro a7 c7 w7 hown hk7; try intro _
        have HP7 : Hd (SgP (fun k => w.heap.size ≤ k) w.heap.size w7 (.slice a7 (acc.length + 1) c7) (acc ++ [x])) := hid (sgp_append (V := w2.alloc (.cells #[.int .i64 id, .int .i64 a0, .int .i64 (n : Int), .int .u32 (Cr.crc b : Nat), .slice a3 x.d.length c3] 57)) HGE.out HXC.out (K3.out.alloc _) ((HC1.out _ _ ((S3.out.keep (keeps_alloc (fun _ => False) _ _) (fun _ _ _ h => h)).mono (fun b _ h => ⟨by omega, fun e => by have := HLT.out b e; omega⟩)))) (by (try simp); omega) (hown.mono (fun b _ h => h.imp (fun h => h) (fun h => by rw [World.size_alloc]; exact h))) hk7)
        have K7 : Hd (Keeps (fun _ => False) w w7) := hid ((HK.out.trans (K3.out.alloc _)).trans' hk7 (fun i hi e => by have := HGE.out i e; omega))
        clear hown hk7 HO HGE HXC K3 HLT HC1 S3 SX
        go_wp2
        go_roundw
        case rel => exact ⟨acc ++ [x], a0 + z, a7, c7, by rw [List.length_append]; rfl, by first | rfl | (rw [h]), by omega, HE2, by rw [List.length_append]; exact HP7, K7⟩
        case measure => simp [intOf]; omega
      · have hz : z = u - a0 := by omega
        have e9 : a0 + z = u := h
        rw [e9] at u1
        have HE9 := hid e9; clear e9 hz
        obtain ⟨p, hp⟩ : ∃ p : Nat, (p : Int) = a0 := ⟨a0.toNat, by omega⟩
        obtain ⟨q, hq⟩ : ∃ q : Nat, (q : Int) = u := ⟨(u).toNat, by omega⟩
        obtain ⟨a2, c2, hcut, hr2⟩ := run_cut (P := Tryd.prog) (t := 22) Tryd.underlying22 hi8 hy1 HR.out (lo := a0) (hh := u) p q hp.symm hq.symm (by omega) (by omega)
        have hd : x.d = (b.drop p).take (q - p) := by rw [HX.out]; show (b.take (min (a0 + z) u).toNat).drop a0.toNat = _; rw [List.drop_take, show (min (a0 + z) u).toNat = q by omega, show a0.toNat = p by omega]
        have hl : q - p = x.d.length := by rw [hd, List.length_take, List.length_drop, HBL.out]; omega
        have hu8 : u8s x.d = ((u8s b).drop (p * 1)).take ((q - p) * 1) := by rw [hd, Nat.mul_one, Nat.mul_one]; simp [u8s, List.map_take, List.map_drop]
        have SX : Hd (Sl (fun k => k < w.heap.size) wr (.slice a2 x.d.length c2) (u8s x.d)) := hid (by rw [hu8, ← hl]; exact row_sl hr2 (by rw [← hu8, u8s_length, hl]))
        rw [hl] at hcut
        have hxd : x.d.length ≤ 256 := by omega
        have HXF : Hd (x.f = id ∧ x.o = a0 ∧ x.t = n ∧ x.s = Cr.crc b) := hid (by rw [HX.out]; exact ⟨rfl, rfl, by show (b.length : Int) = n; rw [HBL.out], rfl⟩)
        clear hr2 hd hl hu8 hp hq
        go_wp2_with fail
        refine (Cr.CloneB_any _ _ x.d _ SX.out (by omega)).mono ?_
        rintro e w2 ⟨a3, n3, c3, rfl, hn3, ho3, hk3⟩
        obtain rfl : n3 = x.d.length := by rw [hn3, u8s_length]
        have S3 : Hd (Sl (fun k => wr.heap.size ≤ k) w2 (.slice a3 x.d.length c3) (u8s x.d)) := hid (row_sl ho3.row (by rw [u8s_length]))
        obtain ⟨xs, hxo, hge, hxc⟩ := HP.out
        have HO := hid (hxo.keep hk3 (fun _ _ _ h => h)); have HGE := hid hge; have HXC := hid hxc; have K3 := hid hk3; have HLT : Hd (∀ b, (Value.slice a acc.length c).ownBlock = some b → b < wr.heap.size) := hid (fun b hb => (hxo.1.lt b hb).2)
        have z3 := hk3.size
        clear hxo hge hxc hn3 ho3 hk3 hcut HP
        have HC1 : Hd (∀ (W : World) (K : Nat → Prop), Sl K W (.slice a3 x.d.length c3) (u8s x.d) → SgC K W [.int .i64 id, .int .i64 a0, .int .i64 (n : Int), .int .u32 (Cr.crc b : Nat), .slice a3 x.d.length c3] [x]) := hid (fun W K h => by
  have e := SgC.one h
  rw [HXF.out.1, HXF.out.2.1, HXF.out.2.2.1, HXF.out.2.2.2] at e
  exact e)
        go_wp2_with (at_builtin; refine wpList_append_row rfl (.tmp 23) (.tmp 39) 51 rfl 57 i0 zz 5 56 Tryd.underlying51 hi hz0 hz1 hz2 hz3 (by decide) _ (fun _ => True) (.slice a acc.length c) _ acc.length xs rfl (HO.out.alloc _) 1 [.int .i64 id, .int .i64 a0, .int .i64 (n : Int), .int .u32 (Cr.crc b : Nat), .slice a3 x.d.length c3] rfl (by exact lit_rowF _ _ _ 1 5 rfl (by decide)) (by intro u hu; simp at hu; rcases hu with rfl | rfl | rfl | rfl | rfl <;> rfl) (by simp [maxLen]; omega) (by omega) ?_)
        intro a7 c7 w7 hown hk7; try intro _
        have HP7 : Hd (SgP (fun k => w.heap.size ≤ k) w.heap.size w7 (.slice a7 (acc.length + 1) c7) (acc ++ [x])) := hid (sgp_append (V := w2.alloc (.cells #[.int .i64 id, .int .i64 a0, .int .i64 (n : Int), .int .u32 (Cr.crc b : Nat), .slice a3 x.d.length c3] 57)) HGE.out HXC.out (K3.out.alloc _) ((HC1.out _ _ ((S3.out.keep (keeps_alloc (fun _ => False) _ _) (fun _ _ _ h => h)).mono (fun b _ h => ⟨by omega, fun e => by have := HLT.out b e; omega⟩)))) (by (try simp); omega) (hown.mono (fun b _ h => h.imp (fun h => h) (fun h => by rw [World.size_alloc]; exact h))) hk7)
        have K7 : Hd (Keeps (fun _ => False) w w7) := hid ((HK.out.trans (K3.out.alloc _)).trans' hk7 (fun i hi e => by have := HGE.out i e; omega))
        clear hown hk7 HO HGE HXC K3 HLT HC1 S3 SX
        go_wp2
        go_roundw
        case rel => exact ⟨acc ++ [x], a0 + z, a7, c7, by rw [List.length_append]; rfl, by first | rfl | (rw [h]), by omega, HE2, by rw [List.length_append]; exact HP7, K7⟩
        case measure => simp [intOf]; omega
      · obtain ⟨p, hp⟩ : ∃ p : Nat, (p : Int) = a0 := ⟨a0.toNat, by omega⟩
        obtain ⟨q, hq⟩ : ∃ q : Nat, (q : Int) = u := ⟨(u).toNat, by omega⟩
        obtain ⟨a2, c2, hcut, hr2⟩ := run_cut (P := Tryd.prog) (t := 22) Tryd.underlying22 hi8 hy1 HR.out (lo := a0) (hh := u) p q hp.symm hq.symm (by omega) (by omega)
        have hd : x.d = (b.drop p).take (q - p) := by rw [HX.out]; show (b.take (min (a0 + z) u).toNat).drop a0.toNat = _; rw [List.drop_take, show (min (a0 + z) u).toNat = q by omega, show a0.toNat = p by omega]
        have hl : q - p = x.d.length := by rw [hd, List.length_take, List.length_drop, HBL.out]; omega
        have hu8 : u8s x.d = ((u8s b).drop (p * 1)).take ((q - p) * 1) := by rw [hd, Nat.mul_one, Nat.mul_one]; simp [u8s, List.map_take, List.map_drop]
        have SX : Hd (Sl (fun k => k < w.heap.size) wr (.slice a2 x.d.length c2) (u8s x.d)) := hid (by rw [hu8, ← hl]; exact row_sl hr2 (by rw [← hu8, u8s_length, hl]))
        rw [hl] at hcut
        have hxd : x.d.length ≤ 256 := by omega
        have HXF : Hd (x.f = id ∧ x.o = a0 ∧ x.t = n ∧ x.s = Cr.crc b) := hid (by rw [HX.out]; exact ⟨rfl, rfl, by show (b.length : Int) = n; rw [HBL.out], rfl⟩)
        clear hr2 hd hl hu8 hp hq
        go_wp2_with fail
        refine (Cr.CloneB_any _ _ x.d _ SX.out (by omega)).mono ?_
        rintro e w2 ⟨a3, n3, c3, rfl, hn3, ho3, hk3⟩
        obtain rfl : n3 = x.d.length := by rw [hn3, u8s_length]
        have S3 : Hd (Sl (fun k => wr.heap.size ≤ k) w2 (.slice a3 x.d.length c3) (u8s x.d)) := hid (row_sl ho3.row (by rw [u8s_length]))
        obtain ⟨xs, hxo, hge, hxc⟩ := HP.out
        have HO := hid (hxo.keep hk3 (fun _ _ _ h => h)); have HGE := hid hge; have HXC := hid hxc; have K3 := hid hk3; have HLT : Hd (∀ b, (Value.slice a acc.length c).ownBlock = some b → b < wr.heap.size) := hid (fun b hb => (hxo.1.lt b hb).2)
        have z3 := hk3.size
        clear hxo hge hxc hn3 ho3 hk3 hcut HP
        have HC1 : Hd (∀ (W : World) (K : Nat → Prop), Sl K W (.slice a3 x.d.length c3) (u8s x.d) → SgC K W [.int .i64 id, .int .i64 a0, .int .i64 (n : Int), .int .u32 (Cr.crc b : Nat), .slice a3 x.d.length c3] [x]) := hid (fun W K h => by
  have e := SgC.one h
  rw [HXF.out.1, HXF.out.2.1, HXF.out.2.2.1, HXF.out.2.2.2] at e
  exact e)
        go_wp2_with (at_builtin; refine wpList_append_row rfl (.tmp 23) (.tmp 39) 51 rfl 57 i0 zz 5 56 Tryd.underlying51 hi hz0 hz1 hz2 hz3 (by decide) _ (fun _ => True) (.slice a acc.length c) _ acc.length xs rfl (HO.out.alloc _) 1 [.int .i64 id, .int .i64 a0, .int .i64 (n : Int), .int .u32 (Cr.crc b : Nat), .slice a3 x.d.length c3] rfl (by exact lit_rowF _ _ _ 1 5 rfl (by decide)) (by intro u hu; simp at hu; rcases hu with rfl | rfl | rfl | rfl | rfl <;> rfl) (by simp [maxLen]; omega) (by omega) ?_)
        intro a7 c7 w7 hown hk7; try intro _
        have HP7 : Hd (SgP (fun k => w.heap.size ≤ k) w.heap.size w7 (.slice a7 (acc.length + 1) c7) (acc ++ [x])) := hid (sgp_append (V := w2.alloc (.cells #[.int .i64 id, .int .i64 a0, .int .i64 (n : Int), .int .u32 (Cr.crc b : Nat), .slice a3 x.d.length c3] 57)) HGE.out HXC.out (K3.out.alloc _) ((HC1.out _ _ ((S3.out.keep (keeps_alloc (fun _ => False) _ _) (fun _ _ _ h => h)).mono (fun b _ h => ⟨by omega, fun e => by have := HLT.out b e; omega⟩)))) (by (try simp); omega) (hown.mono (fun b _ h => h.imp (fun h => h) (fun h => by rw [World.size_alloc]; exact h))) hk7)
        have K7 : Hd (Keeps (fun _ => False) w w7) := hid ((HK.out.trans (K3.out.alloc _)).trans' hk7 (fun i hi e => by have := HGE.out i e; omega))
        clear hown hk7 HO HGE HXC K3 HLT HC1 S3 SX
        go_wp2
        go_roundw
        case rel => exact ⟨acc ++ [x], a0 + z, a7, c7, by rw [List.length_append]; rfl, by first | rfl | (rw [h]), by omega, HE2, by rw [List.length_append]; exact HP7, K7⟩
        case measure => simp [intOf]; omega
    · have d1 : decide (a0 < u) = false := by simp; omega
      have HF : Hd (acc = rangeS id b lo u z) := hid (by have h := HE.out; rw [rangeS_end (by omega), List.append_nil] at h; exact h)
      have HR : Hd (SgRet (fun k => w.heap.size ≤ k) w (rangeS id b lo u z) (.returned (.slice a acc.length c)) wr) := hid ⟨a, _, c, rfl, by rw [HF.out], by rw [← HF.out]; exact HP.out, HK.out⟩
      clear HE HP HK HF
      go_wp2
      go_ret
      exact HR.out
end Go.Proofs.YtgfekgceeigdiaaDoor
namespace Go.Proofs.YtgfekgceeigdiaaDoor
open Go.RowKit
attribute [local go_sem ↓] Go.wp_at_zero Go.wp_at_succ
theorem flat_get {α : Type} (f : α → List Value) (s : Nat) (hf : ∀ x, (f x).length = s) : ∀ (l : List α) (k : Nat) (x : α) (j : Nat), l[k]? = some x → j < s → (l.flatMap f)[k * s + j]? = (f x)[j]? := by
  intro l
  induction l with
  | nil => intro k x j h; simp at h
  | cons y l ih =>
    intro k x j h hj
    rw [List.flatMap_cons]
    cases k with
    | zero => simp at h; subst h; rw [Nat.zero_mul, Nat.zero_add, List.getElem?_append_left (by rw [hf]; exact hj)]
    | succ k =>
      rw [List.getElem?_append_right (by rw [hf, Nat.add_mul]; omega), hf]
      rw [show (k + 1) * s + j - s = k * s + j by rw [Nat.add_mul]; omega]
      exact ih k x j (by simpa using h) hj
def gpC (g : Int × Int) : List Value := [.int .i64 g.1, .int .i64 g.2]
def gpX (l : List (Int × Int)) : List Value := l.flatMap gpC
/-- gaps: rows of two numbers -/
def Gps (K : Nat → Prop) (w : World) (v : Value) (l : List (Int × Int)) : Prop := Row K w 2 v l.length (gpX l)
theorem gps_at {K : Nat → Prop} {w : World} {a : Option Addr} {n c : Nat} {l : List (Int × Int)} (h : Gps K w (.slice a n c) l) {k : Nat} {g : Int × Int} (hk : l[k]? = some g) :
    ∃ b o, a = some ⟨b, o, none⟩ ∧ K b ∧ b < w.heap.size ∧ w.cell? ⟨b, o + k * 2, none⟩ = some (.int .i64 g.1) ∧ w.cell? ⟨b, o + k * 2 + 1, none⟩ = some (.int .i64 g.2) := by
  have hkl : k < l.length := (List.getElem?_eq_some_iff.1 hk).1
  obtain ⟨a', c', e, _, _, hel⟩ := Row.form h
  injection e with e1 e2 e3
  subst e1
  obtain ⟨b, o, ea, hK, hb, hcell⟩ := hel (by omega)
  have key : ∀ j, j < 2 → w.cell? ⟨b, o + (k * 2 + j), none⟩ = some ((gpC g).getD j undef) := fun j hj => by
    rw [hcell (k * 2 + j) (by omega), List.getD, show gpX l = l.flatMap gpC from rfl, flat_get gpC 2 (fun _ => rfl) l k g j hk hj, List.getD]
  exact ⟨b, o, ea, hK, hb, key 0 (by omega), by have := key 1 (by omega); rw [← Nat.add_assoc] at this; exact this⟩
set_option maxRecDepth 100000 in set_option maxHeartbeats 1000000 in
theorem Answer_any (v vg : Value) (b : List Nat) (gs : List (Int × Int)) (id z : Int) (w : World) (hN : Cr.Nib w) (hv : Sl (fun k => k < w.heap.size) w v (u8s b)) (hb : ∀ c ∈ b, c < 256) (hg : Gps (fun k => k < w.heap.size) w vg gs) (hgl : gs.length ≤ 1000000)
    (hm : b.length ≤ 65538) :
    Calls Tryd.prog 22 #[.int .i64 id, v, vg, .int .i64 z] w fun e w' => SgRet (fun k => w.heap.size ≤ k) w (answerL id b gs z) e w' := by
  obtain ⟨i0, zz, hi, hz0, hz1, hz2, hz3⟩ := sg_parts
  have HN := hid hN; have HB := hid hb; have HV := hid hv; have HG := hid hg
  obtain ⟨av, cv, rfl, _⟩ := hv.bytes
  obtain ⟨ag, cg, rfl, _⟩ := Row.form hg
  clear hN hb hv hg
  obtain ⟨A, hA⟩ : ∃ A, answerL id b gs z = A := ⟨_, rfl⟩
  rw [hA]
  have HA := hid hA; clear hA
  obtain ⟨F, hF⟩ : ∃ F, fitsL b z = F := ⟨_, rfl⟩
  have HF := hid hF
  have HFZ : Hd (F = 0 → (1 ≤ z ∧ z ≤ 256) ∧ b.length ≤ 65536) := hid (fun h => by rw [← hF] at h; unfold fitsL at h; split at h <;> (try split at h) <;> omega)
  clear hF
  generalize hbl : b.length = n at *
  have HBL := hid hbl; clear hbl
  generalize hll : gs.length = m at *
  have HLL := hid hll; clear hll
  go_enter Tryd.func22, Tryd.ntmps22
  go_wp2_with fail
  refine (fits_any _ b z _ _ HV.out).mono ?_
  rw [HF.out]
  rintro e wx ⟨rfl, rfl⟩
  have hnil : ∀ (h : F ≠ 0 ∨ gs = []), SgRet (fun k => w.heap.size ≤ k) w A (.returned (.slice none 0 0)) w := fun h => by
    have e : A = [] := by rw [← HA.out]; unfold answerL; rw [HF.out, if_pos h]
    rw [e]
    exact ⟨none, 0, 0, rfl, rfl, SgP.nil _ _ _, Keeps.refl _ _⟩
  have HNIL := hid hnil; clear hnil
  by_cases hF0 : F = 0
  · have d0 : (F != 0) = false := by simp; exact hF0
    obtain ⟨hz12, hn6⟩ := HFZ.out hF0
    have HF0 := hid hF0; clear hF0
    by_cases hm0 : m = 0
    · have d1 : ((m : Int) == 0) = true := by simp; omega
      have HRET := hid (HNIL.out (.inr (List.eq_nil_of_length_eq_zero (by rw [HLL.out]; exact hm0))))
      clear hm0
      go_wp2
      go_ret
      exact HRET.out
    · have d1 : ((m : Int) == 0) = false := by simp; omega
      by_cases hn0 : n = 0
      · have d2 : ((n : Int) == 0) = true := by simp; omega
        have HRET : Hd (A = [⟨id, 0, 0, 0, []⟩]) := hid (by
          rw [← HA.out]; unfold answerL
          rw [HF.out, if_neg (by rw [HF0.out]; intro h; rcases h with h | h; exact h rfl; rw [h] at HLL; exact hm0 HLL.out.symm), if_pos (List.eq_nil_of_length_eq_zero (by rw [HBL.out]; exact hn0))])
        clear hm0 hn0
        go_wp2_with fail
        refine (Cr.Sum_any (fun _ => True) _ [] _ HN.out (Sl.nil _ _) (by simp) (by simp)).mono ?_
        rw [show Cr.crc [] = 0 from by kernel_rfl]
        rintro e wx ⟨rfl, rfl⟩
        go_wp2
        go_ret
        rw [HRET.out]
        refine ⟨_, 1, 1, rfl, rfl, ⟨[.int .i64 id, .int .i64 0, .int .i64 0, .int .u32 0, .slice none 0 0], ⟨World.ownsRow_lit (base := 0) (e := 57) w #[.int .i64 id, .int .i64 0, .int .i64 0, .int .u32 0, .slice none 0 0] 1 (Nat.zero_le _) (by decide) rfl, fun _ h => h⟩, fun b hb => by injection hb with hb; simp at hb; omega, SgC.one (x := ⟨id, 0, 0, 0, []⟩) (Sl.nil _ _)⟩, keeps_alloc _ _ _⟩
      · have d2 : ((n : Int) == 0) = false := by simp; omega
        have HRET : Hd (A = gs.flatMap (gapR id b z)) := hid (by
          rw [← HA.out]; unfold answerL
          rw [HF.out, if_neg (by rw [HF0.out]; intro h; rcases h with h | h; exact h rfl; rw [h] at HLL; exact hm0 HLL.out.symm), if_neg (fun h => by rw [h] at HBL; exact hn0 HBL.out.symm)])
        clear hm0 hn0 HNIL
        go_wp2_with fail
        go_loopw [9, 30] (fun lv iv wr => ∃ (k : Nat) (a : Option Addr) (acc : List Seg) (c : Nat), lv = .slice a acc.length c ∧ iv = .int .i64 k ∧ k ≤ m ∧ Hd (acc = (gs.take k).flatMap (gapR id b z)) ∧ Hd (SgP (fun k => w.heap.size ≤ k) w.heap.size wr (.slice a acc.length c) acc) ∧ Hd (Keeps (fun _ => False) w wr)) (fun _ x _ => m - (intOf x).toNat)
        case atStart => exact ⟨0, none, [], 0, rfl, rfl, Nat.zero_le _, hid (by simp), hid (SgP.nil _ _ _), hid (Keeps.refl _ _)⟩
        case round =>
          obtain ⟨k, a, acc, c, rfl, rfl, hk, HE, HP, HK⟩ := hrel
          have hal : acc.length ≤ k * n := by
            have h := flat_len_le (gapR id b z) b.length (gapR_len id b z) (gs.take k)
            rw [← HE.out, List.length_take, HLL.out, HBL.out, Nat.min_eq_left hk] at h; exact h
          by_cases hkm : k < m
          · obtain ⟨g, hgk⟩ : ∃ g, gs[k]? = some g := ⟨gs[k]'(by rw [HLL.out]; exact hkm), List.getElem?_eq_getElem _⟩
            obtain ⟨bb, ob, rfl, hb1, hb2, y0, y1⟩ := gps_at HG.out hgk
            have f0 : wr.cell? ⟨bb, ob + k * 2, none⟩ = some (.int .i64 g.1) := keep_cell HK.out (fun h => h) y0
            have f1 : wr.cell? ⟨bb, ob + k * 2 + 1, none⟩ = some (.int .i64 g.2) := keep_cell HK.out (fun h => h) y1
            have HE2 : Hd (acc ++ gapR id b z g = (gs.take (k + 1)).flatMap (gapR id b z)) := hid (by
              rw [List.take_add_one, hgk, List.flatMap_append, ← HE.out]; simp)
            have hgl2 : (gapR id b z g).length ≤ n := by have h := gapR_len id b z g; rw [HBL.out] at h; exact h
            have k1 : (k : Int) < m := by omega
            have k2 : (0 : Int) ≤ k := by omega
            have hkn : k * n ≤ 1000000 * 65538 := Nat.mul_le_mul (by omega) hm
            have zr := HK.out.size
            clear y0 y1 hgk
            go_upto_region 9 with fail
            generalize hW : World.alloc wr _ = W1
            have BG : Hd (Blk W1 wr.heap.size #[.int .i64 g.1, .int .i64 g.2] 69) := hid (by rw [← hW]; exact blk_new _ _ _)
            have KW : Hd (Keeps (fun _ => False) wr W1) := hid (by rw [← hW]; exact keeps_alloc _ _ _)
            clear hW f0 f1
            have zW := KW.out.size
            have HV1 := hid (HV.out.keep (HK.out.trans KW.out) (fun _ _ _ h => h)); have HN1 : Hd (Cr.Nib W1) := hid (HN.out.keep (HK.out.trans KW.out) (fun h => h))
            have o0 : W1.cell? ⟨wr.heap.size, 0, none⟩ = some (.int .i64 g.1) := blk_cell BG.out 0
            have o1 : W1.cell? ⟨wr.heap.size, 1, none⟩ = some (.int .i64 g.2) := blk_cell BG.out 1
            have HGR : Hd (gapR id b z g = rangeS id b (max g.1 0) (min g.2 n) z) := hid (by unfold gapR; rw [HBL.out])
            obtain ⟨g1, g2⟩ := g
            simp only [] at o0 o1 HGR HE2 hgl2
            rcases Int.lt_or_le g1 0 with hg1 | hg1
            · rcases Int.lt_or_le n g2 with hg2 | hg2
              · have HQ : Hd (gapR id b z (g1, g2) = rangeS id b (0) (n) z) := hid (by rw [HGR.out]; congr 1 <;> omega)
                clear HGR
                go_wp2_with fail
                refine (pieces_any _ b id (0) (n) z _ HN1.out (HV1.out.mono (fun b h _ => h)) HB.out (by rw [HBL.out]; omega) (by omega) (by rw [HBL.out]; omega) hz12).mono ?_
                rw [← HQ.out]
                rintro e w2 ⟨a3, n3, c3, rfl, rfl, hp3, hk3⟩
                generalize hGL : gapR id b z (g1, g2) = G at *
                clear hGL HQ o0 o1
                have K3 := hid hk3; have z3 := hk3.size
                obtain ⟨xs, hxo, hge, hxc⟩ := HP.out
                have KR2 := hid (KW.out.trans hk3)
                have HO := hid (hxo.keep KR2.out (fun _ _ _ h => h)); have HGE := hid hge; have HXC := hid hxc; have HLT : Hd (∀ b, (Value.slice a acc.length c).ownBlock = some b → b < wr.heap.size) := hid (fun b hb => (hxo.1.lt b hb).2)
                obtain ⟨ns, hno, hnge, hnc⟩ := hp3
                have HNR : Hd (Row (fun _ => True) w2 5 (.slice a3 G.length c3) G.length ns) := hid (hno.row.mono (fun _ _ _ => trivial)); have HNC := hid hnc; have HN1S := hid hnc.ones
                clear hxo hge hxc hk3 hno hnge hnc HP
                go_wp2_with (at_builtin; refine wpList_append_row rfl (.tmp 34) (.tmp 46) 51 rfl 57 i0 zz 5 56 Tryd.underlying51 hi hz0 hz1 hz2 hz3 (by decide) _ (fun _ => True) (.slice a acc.length c) _ acc.length xs rfl HO.out G.length ns rfl HNR.out HN1S.out (by simp [maxLen]; omega) (by omega) ?_)
                intro a7 c7 w7 hown hk7; try intro _
                have HP7 : Hd (SgP (fun k => w.heap.size ≤ k) w.heap.size w7 (.slice a7 (acc.length + G.length) c7) (acc ++ G)) := hid (sgp_append HGE.out HXC.out KR2.out (HNC.out.mono (fun b _ h => ⟨by omega, fun e => by have := HLT.out b e; omega⟩)) (by omega) hown hk7)
                have K7 : Hd (Keeps (fun _ => False) w w7) := hid ((HK.out.trans KR2.out).trans' hk7 (fun i hi e => by have := HGE.out i e; omega))
                clear hown hk7 HO HGE HXC K3 HLT HNR HNC HN1S
                go_wp2
                go_roundw
                case rel => exact ⟨k + 1, a7, acc ++ G, c7, by rw [List.length_append], by go_num, by omega, HE2, by rw [List.length_append]; exact HP7, K7⟩
                case measure => simp [intOf]; omega
              · have HQ : Hd (gapR id b z (g1, g2) = rangeS id b (0) (g2) z) := hid (by rw [HGR.out]; congr 1 <;> omega)
                clear HGR
                go_wp2_with fail
                refine (pieces_any _ b id (0) (g2) z _ HN1.out (HV1.out.mono (fun b h _ => h)) HB.out (by rw [HBL.out]; omega) (by omega) (by rw [HBL.out]; omega) hz12).mono ?_
                rw [← HQ.out]
                rintro e w2 ⟨a3, n3, c3, rfl, rfl, hp3, hk3⟩
                generalize hGL : gapR id b z (g1, g2) = G at *
                clear hGL HQ o0 o1
                have K3 := hid hk3; have z3 := hk3.size
                obtain ⟨xs, hxo, hge, hxc⟩ := HP.out
                have KR2 := hid (KW.out.trans hk3)
                have HO := hid (hxo.keep KR2.out (fun _ _ _ h => h)); have HGE := hid hge; have HXC := hid hxc; have HLT : Hd (∀ b, (Value.slice a acc.length c).ownBlock = some b → b < wr.heap.size) := hid (fun b hb => (hxo.1.lt b hb).2)
                obtain ⟨ns, hno, hnge, hnc⟩ := hp3
                have HNR : Hd (Row (fun _ => True) w2 5 (.slice a3 G.length c3) G.length ns) := hid (hno.row.mono (fun _ _ _ => trivial)); have HNC := hid hnc; have HN1S := hid hnc.ones
                clear hxo hge hxc hk3 hno hnge hnc HP
                go_wp2_with (at_builtin; refine wpList_append_row rfl (.tmp 34) (.tmp 46) 51 rfl 57 i0 zz 5 56 Tryd.underlying51 hi hz0 hz1 hz2 hz3 (by decide) _ (fun _ => True) (.slice a acc.length c) _ acc.length xs rfl HO.out G.length ns rfl HNR.out HN1S.out (by simp [maxLen]; omega) (by omega) ?_)
                intro a7 c7 w7 hown hk7; try intro _
                have HP7 : Hd (SgP (fun k => w.heap.size ≤ k) w.heap.size w7 (.slice a7 (acc.length + G.length) c7) (acc ++ G)) := hid (sgp_append HGE.out HXC.out KR2.out (HNC.out.mono (fun b _ h => ⟨by omega, fun e => by have := HLT.out b e; omega⟩)) (by omega) hown hk7)
                have K7 : Hd (Keeps (fun _ => False) w w7) := hid ((HK.out.trans KR2.out).trans' hk7 (fun i hi e => by have := HGE.out i e; omega))
                clear hown hk7 HO HGE HXC K3 HLT HNR HNC HN1S
                go_wp2
                go_roundw
                case rel => exact ⟨k + 1, a7, acc ++ G, c7, by rw [List.length_append], by go_num, by omega, HE2, by rw [List.length_append]; exact HP7, K7⟩
                case measure => simp [intOf]; omega
            · rcases Int.lt_or_le n g2 with hg2 | hg2
              · have HQ : Hd (gapR id b z (g1, g2) = rangeS id b (g1) (n) z) := hid (by rw [HGR.out]; congr 1 <;> omega)
                clear HGR
                go_wp2_with fail
                refine (pieces_any _ b id (g1) (n) z _ HN1.out (HV1.out.mono (fun b h _ => h)) HB.out (by rw [HBL.out]; omega) (by omega) (by rw [HBL.out]; omega) hz12).mono ?_
                rw [← HQ.out]
                rintro e w2 ⟨a3, n3, c3, rfl, rfl, hp3, hk3⟩
                generalize hGL : gapR id b z (g1, g2) = G at *
                clear hGL HQ o0 o1
                have K3 := hid hk3; have z3 := hk3.size
                obtain ⟨xs, hxo, hge, hxc⟩ := HP.out
                have KR2 := hid (KW.out.trans hk3)
                have HO := hid (hxo.keep KR2.out (fun _ _ _ h => h)); have HGE := hid hge; have HXC := hid hxc; have HLT : Hd (∀ b, (Value.slice a acc.length c).ownBlock = some b → b < wr.heap.size) := hid (fun b hb => (hxo.1.lt b hb).2)
                obtain ⟨ns, hno, hnge, hnc⟩ := hp3
                have HNR : Hd (Row (fun _ => True) w2 5 (.slice a3 G.length c3) G.length ns) := hid (hno.row.mono (fun _ _ _ => trivial)); have HNC := hid hnc; have HN1S := hid hnc.ones
                clear hxo hge hxc hk3 hno hnge hnc HP
                go_wp2_with (at_builtin; refine wpList_append_row rfl (.tmp 34) (.tmp 46) 51 rfl 57 i0 zz 5 56 Tryd.underlying51 hi hz0 hz1 hz2 hz3 (by decide) _ (fun _ => True) (.slice a acc.length c) _ acc.length xs rfl HO.out G.length ns rfl HNR.out HN1S.out (by simp [maxLen]; omega) (by omega) ?_)
                intro a7 c7 w7 hown hk7; try intro _
                have HP7 : Hd (SgP (fun k => w.heap.size ≤ k) w.heap.size w7 (.slice a7 (acc.length + G.length) c7) (acc ++ G)) := hid (sgp_append HGE.out HXC.out KR2.out (HNC.out.mono (fun b _ h => ⟨by omega, fun e => by have := HLT.out b e; omega⟩)) (by omega) hown hk7)
                have K7 : Hd (Keeps (fun _ => False) w w7) := hid ((HK.out.trans KR2.out).trans' hk7 (fun i hi e => by have := HGE.out i e; omega))
                clear hown hk7 HO HGE HXC K3 HLT HNR HNC HN1S
                go_wp2
                go_roundw
                case rel => exact ⟨k + 1, a7, acc ++ G, c7, by rw [List.length_append], by go_num, by omega, HE2, by rw [List.length_append]; exact HP7, K7⟩
                case measure => simp [intOf]; omega
              · have HQ : Hd (gapR id b z (g1, g2) = rangeS id b (g1) (g2) z) := hid (by rw [HGR.out]; congr 1 <;> omega)
                clear HGR
                go_wp2_with fail
                refine (pieces_any _ b id (g1) (g2) z _ HN1.out (HV1.out.mono (fun b h _ => h)) HB.out (by rw [HBL.out]; omega) (by omega) (by rw [HBL.out]; omega) hz12).mono ?_
                rw [← HQ.out]
                rintro e w2 ⟨a3, n3, c3, rfl, rfl, hp3, hk3⟩
                generalize hGL : gapR id b z (g1, g2) = G at *
                clear hGL HQ o0 o1
                have K3 := hid hk3; have z3 := hk3.size
                obtain ⟨xs, hxo, hge, hxc⟩ := HP.out
                have KR2 := hid (KW.out.trans hk3)
                have HO := hid (hxo.keep KR2.out (fun _ _ _ h => h)); have HGE := hid hge; have HXC := hid hxc; have HLT : Hd (∀ b, (Value.slice a acc.length c).ownBlock = some b → b < wr.heap.size) := hid (fun b hb => (hxo.1.lt b hb).2)
                obtain ⟨ns, hno, hnge, hnc⟩ := hp3
                have HNR : Hd (Row (fun _ => True) w2 5 (.slice a3 G.length c3) G.length ns) := hid (hno.row.mono (fun _ _ _ => trivial)); have HNC := hid hnc; have HN1S := hid hnc.ones
                clear hxo hge hxc hk3 hno hnge hnc HP
                go_wp2_with (at_builtin; refine wpList_append_row rfl (.tmp 34) (.tmp 46) 51 rfl 57 i0 zz 5 56 Tryd.underlying51 hi hz0 hz1 hz2 hz3 (by decide) _ (fun _ => True) (.slice a acc.length c) _ acc.length xs rfl HO.out G.length ns rfl HNR.out HN1S.out (by simp [maxLen]; omega) (by omega) ?_)
                intro a7 c7 w7 hown hk7; try intro _
                have HP7 : Hd (SgP (fun k => w.heap.size ≤ k) w.heap.size w7 (.slice a7 (acc.length + G.length) c7) (acc ++ G)) := hid (sgp_append HGE.out HXC.out KR2.out (HNC.out.mono (fun b _ h => ⟨by omega, fun e => by have := HLT.out b e; omega⟩)) (by omega) hown hk7)
                have K7 : Hd (Keeps (fun _ => False) w w7) := hid ((HK.out.trans KR2.out).trans' hk7 (fun i hi e => by have := HGE.out i e; omega))
                clear hown hk7 HO HGE HXC K3 HLT HNR HNC HN1S
                go_wp2
                go_roundw
                case rel => exact ⟨k + 1, a7, acc ++ G, c7, by rw [List.length_append], by go_num, by omega, HE2, by rw [List.length_append]; exact HP7, K7⟩
                case measure => simp [intOf]; omega
          · obtain rfl : k = m := by omega
            have k0 : ¬ ((k : Int) < k) := by omega
            have HR : Hd (SgRet (fun k => w.heap.size ≤ k) w A (.returned (.slice a acc.length c)) wr) := hid (by
              have e : acc = A := by rw [HE.out, ← HLL.out, List.take_length, HRET.out]
              rw [← e]
              exact ⟨a, _, c, rfl, rfl, HP.out, HK.out⟩)
            clear HE HP HK HRET
            go_wp2
            go_ret
            exact HR.out
  · have d0 : (F != 0) = true := by simp; exact hF0
    have HR := hid (HNIL.out (.inl hF0))
    clear hF0
    go_wp2
    go_ret
    exact HR.out
set_option maxRecDepth 100000 in set_option maxHeartbeats 1000000 in
theorem Cut_any (v : Value) (b : List Nat) (id z : Int) (w : World) (hN : Cr.Nib w) (hv : Sl (fun k => k < w.heap.size) w v (u8s b)) (hb : ∀ c ∈ b, c < 256) (hm : b.length ≤ 65538) :
    Calls Tryd.prog 12 #[.int .i64 id, v, .int .i64 z] w fun e w' => ∃ a n c, e = .returned (.tuple #[.slice a n c, .int .i64 (fitsL b z)]) ∧ n = (cutL id b z).length ∧ SgP (fun k => w.heap.size ≤ k) w.heap.size w' (.slice a n c) (cutL id b z) ∧ Keeps (fun _ => False) w w' := by
  have HN := hid hN; have HB := hid hb; have HV := hid hv
  obtain ⟨av, cv, rfl, _⟩ := hv.bytes
  clear hN hb hv
  obtain ⟨A, hA⟩ : ∃ A, cutL id b z = A := ⟨_, rfl⟩
  rw [hA]
  have HA := hid hA; clear hA
  obtain ⟨F, hF⟩ : ∃ F, fitsL b z = F := ⟨_, rfl⟩
  have HF := hid hF
  rw [hF]
  clear hF
  generalize hbl : b.length = n at *
  have HBL := hid hbl; clear hbl
  go_enter Tryd.func12, Tryd.ntmps12
  go_wp2_with fail
  refine (fits_any _ b z _ _ HV.out).mono ?_
  rw [HF.out]
  rintro e wx ⟨rfl, rfl⟩
  by_cases hF0 : F = 0
  · have d0 : (F != 0) = false := by simp; exact hF0
    have HF0 := hid hF0
    subst hF0
    have HRET : Hd (answerL id b [(0, n)] z = A) := hid (by rw [← HA.out]; unfold cutL; rw [HF.out, if_neg (by simp), HBL.out])
    have KA := hid (keeps_alloc (fun _ => False) w (.cells #[.int .i64 0, .int .i64 n] 69))
    have HG : Hd (Row (fun k => k < (w.alloc (.cells #[.int .i64 0, .int .i64 n] 69)).heap.size) (w.alloc (.cells #[.int .i64 0, .int .i64 n] 69)) 2 (.slice (some ⟨w.heap.size, 0, none⟩) 1 1) 1 (gpX [(0, (n : Int))])) := hid ((lit_rowF w #[.int .i64 0, .int .i64 n] 69 1 2 rfl (by decide)).mono (fun b h _ => h))
    go_wp2_with fail
    refine (Answer_any _ _ b [(0, (n : Int))] id z _ (HN.out.keep KA.out (fun h => h)) ((HV.out.keep KA.out (fun _ _ _ h => h)).mono (fun b h _ => h)) HB.out HG.out (by simp) (by rw [HBL.out]; exact hm)).mono ?_
    rw [HRET.out]
    rintro e w2 ⟨a3, n3, c3, rfl, rfl, hp3, hk3⟩
    have HR : Hd (SgP (fun k => w.heap.size ≤ k) w.heap.size w2 (.slice a3 A.length c3) A) := hid (by
      obtain ⟨xs, h1, h2, h3⟩ := hp3
      have zA := KA.out.size
      exact ⟨xs, h1, fun b hb => Nat.le_trans zA (h2 b hb), h3.mono (fun b _ h => ⟨Nat.le_trans zA h.1, h.2⟩)⟩)
    have K2 := hid (KA.out.trans hk3)
    clear hp3 hk3
    go_wp2
    go_ret2
    exact ⟨a3, _, c3, rfl, rfl, HR.out, K2.out⟩
  · have d0 : (F != 0) = true := by simp; exact hF0
    have HE : Hd (A = []) := hid (by rw [← HA.out]; unfold cutL; rw [HF.out, if_pos hF0])
    clear hF0
    go_wp2
    go_ret2
    rw [HE.out]
    exact ⟨none, 0, 0, rfl, rfl, SgP.nil _ _ _, Keeps.refl _ _⟩
end Go.Proofs.YtgfekgceeigdiaaDoor
namespace Go.Proofs.YtgfekgceeigdiaaDoor
open Go.RowKit
attribute [local go_sem ↓] Go.wp_at_zero Go.wp_at_succ
end Go.Proofs.YtgfekgceeigdiaaDoor
namespace Go.Proofs.YtgfekgceeigdiaaDoor
open Go.RowKit
attribute [local go_sem ↓] Go.wp_at_zero Go.wp_at_succ
end Go.Proofs.YtgfekgceeigdiaaDoor
namespace Go.Proofs.YtgfekgceeigdiaaDoor
open Go.RowKit
attribute [local go_sem ↓] Go.wp_at_zero Go.wp_at_succ
def around (n most : Int) : Int := (if n < 0 then -(n + 1) else n) % most
set_option maxRecDepth 100000 in set_option maxHeartbeats 400000 in
theorem Around_any (n m : Int) (w : World) (h0 : -9223372036854775808 ≤ n) (h1 : n ≤ 9223372036854775807) (h2 : 1 ≤ m) (h3 : m ≤ 1000000000000000) : Calls Tryd.prog 7 #[.int .i64 n, .int .i64 m] w fun e w' => e = .returned (.int .i64 (around n m)) ∧ w = w' := by
  have hne : (m == 0) = false := by simp; omega
  have H0 := hid h0; have H1 := hid h1
  by_cases hn : n < 0
  · have HE : Hd (-((n + 1).tmod m) = around n m) := hid (by unfold around; rw [if_pos hn, ← Int.neg_tmod, Int.tmod_eq_emod_of_nonneg (by omega)])
    go_enter Tryd.func7, Tryd.ntmps7
    go_wp2
    go_ret
    exact ⟨ret_int HE.out, rfl⟩
  · have HE : Hd (n % m = around n m) := hid (by unfold around; rw [if_neg hn])
    go_enter Tryd.func7, Tryd.ntmps7
    go_wp2
    go_ret
    exact ⟨ret_int HE.out, rfl⟩
set_option maxRecDepth 100000 in set_option maxHeartbeats 400000 in
theorem SameBytes_any (K1 K2 : Nat → Prop) (v1 v2 : Value) (xs ys : List Nat) (w : World) (h1 : Sl K1 w v1 (u8s xs)) (h2 : Sl K2 w v2 (u8s ys)) (hx : ∀ c ∈ xs, c < 256) (hy : ∀ c ∈ ys, c < 256) :
    Calls Tryd.prog 19 #[v1, v2] w fun e w' => e = .returned (.bool (decide (xs = ys))) ∧ w = w' := by
  have e1 := Cr.conv_sl h1 hx; have e2 := Cr.conv_sl h2 hy
  have HQ : Hd (((Cr.str xs).toList == (Cr.str ys).toList) = decide (xs = ys)) := hid (by
    rw [Bool.eq_iff_iff, beq_iff_eq, decide_eq_true_iff]
    exact ⟨fun h => Cr.str_inj hx hy (Cr.ba_inj h), fun h => by rw [h]⟩)
  generalize Cr.str xs = s at *
  generalize Cr.str ys = t at *
  clear h1 h2 hx hy
  go_enter Tryd.func19, Tryd.ntmps19
  go_wp2
  go_ret
  exact ⟨ret_bool HQ.out, rfl⟩
/-- a segment's cells -/
theorem sgs_cells {K : Nat → Prop} {w : World} {a : Option Addr} {n c : Nat} {l : List Seg} (h : Sgs K w (.slice a n c) l) (hl : 0 < l.length) :
    ∃ b o, a = some ⟨b, o, none⟩ ∧ K b ∧ b < w.heap.size ∧ ∀ k x, l[k]? = some x → w.cell? ⟨b, o + k * 5, none⟩ = some (.int .i64 x.f) ∧ w.cell? ⟨b, o + k * 5 + 1, none⟩ = some (.int .i64 x.o) ∧ w.cell? ⟨b, o + k * 5 + 2, none⟩ = some (.int .i64 x.t) ∧ w.cell? ⟨b, o + k * 5 + 3, none⟩ = some (.int .u32 (x.s : Int)) ∧
      ∃ ad cd, w.cell? ⟨b, o + k * 5 + 4, none⟩ = some (.slice ad x.d.length cd) ∧ Sl K w (.slice ad x.d.length cd) (u8s x.d) := by
  obtain ⟨xs, hrow, hc⟩ := h
  obtain ⟨a', c', e, _, _, hel⟩ := hrow.form
  injection e with e1 e2 e3
  subst e1
  obtain ⟨b, o, ea, hK, hb, hcell⟩ := hel hl
  refine ⟨b, o, ea, hK, hb, fun k x hx => ?_⟩
  have hk : k < l.length := (List.getElem?_eq_some_iff.1 hx).1
  obtain ⟨t0, t1, t2, t3, t4⟩ := hc.2 k x hx
  have key : ∀ j, j < 5 → w.cell? ⟨b, o + k * 5 + j, none⟩ = some (xs.getD (k * 5 + j) undef) := fun j hj => by rw [Nat.add_assoc]; exact hcell (k * 5 + j) (by omega)
  obtain ⟨ad, cd, e4, _⟩ := t4.bytes
  have e4' : xs.getD (k * 5 + 4) undef = .slice ad x.d.length cd := e4
  have h4 : Sl K w (.slice ad x.d.length cd) (u8s x.d) := by have h := t4; simp only [e4'] at h; exact h
  exact ⟨(key 0 (by omega)).trans (congrArg some t0), (key 1 (by omega)).trans (congrArg some t1), (key 2 (by omega)).trans (congrArg some t2), (key 3 (by omega)).trans (congrArg some t3), ad, cd, (key 4 (by omega)).trans (congrArg some e4'), h4⟩
end Go.Proofs.YtgfekgceeigdiaaDoor
namespace Go.Proofs.YtgfekgceeigdiaaDoor
open Go.RowKit
attribute [local go_sem ↓] Go.wp_at_zero Go.wp_at_succ
/-- a file that is being put together -/
structure Pm where
  id : Int
  kn : Bool
  sm : Nat
  hv : List Bool
  dt : List Nat
def bls (l : List Bool) : List Value := l.map Value.bool
@[simp] theorem bls_length (l : List Bool) : (bls l).length = l.length := by simp [bls]
theorem bls_one (l : List Bool) : ∀ u ∈ bls l, u.oneCell' = true := by intro u hu; simp [bls] at hu; rcases hu with ⟨_, rfl⟩ | ⟨_, rfl⟩ <;> rfl
structure Pm.ok (M : Pm) : Prop where
  len : M.hv.length = M.dt.length
  max : M.dt.length ≤ 65536
  b : ∀ c ∈ M.dt, c < 256
  s : M.sm < 4294967296
  un : M.kn = false → M.dt = []
def newM (id : Int) : Pm := ⟨id, false, 0, [], []⟩
theorem newM_ok (id : Int) : (newM id).ok := ⟨rfl, by simp [newM], by simp [newM], by simp [newM], fun _ => rfl⟩
/-- a part in memory: its blocks lie in Z, apart -/
def PartR (Z : Nat → Prop) (w : World) (p : Nat) (M : Pm) : Prop := ∃ (ah : Option Addr) (ch : Nat) (ad : Option Addr) (cd : Nat),
  Blk w p #[.int .i64 M.id, .bool M.kn, .int .u32 (M.sm : Int), .slice ah M.hv.length ch, .slice ad M.dt.length cd] 93 ∧ Z p ∧
  Own (fun b => Z b ∧ b ≠ p ∧ (Value.slice ad M.dt.length cd).ownBlock ≠ some b) w 4 1 (.slice ah M.hv.length ch) M.hv.length (bls M.hv) ∧
  Own (fun b => Z b ∧ b ≠ p) w 5 1 (.slice ad M.dt.length cd) M.dt.length (u8s M.dt)
theorem PartR.mono {Z Z' : Nat → Prop} {w : World} {p : Nat} {M : Pm} (h : PartR Z w p M) (hd : ∀ b, b < w.heap.size → Z b → Z' b) : PartR Z' w p M := by
  obtain ⟨ah, ch, ad, cd, h1, h2, h3, h4⟩ := h
  exact ⟨ah, ch, ad, cd, h1, hd p (blk_lt h1) h2, h3.mono (fun b hb h => ⟨hd b hb h.1, h.2⟩), h4.mono (fun b hb h => ⟨hd b hb h.1, h.2⟩)⟩
theorem PartR.keep {Z S : Nat → Prop} {w w' : World} {p : Nat} {M : Pm} (h : PartR Z w p M) (hk : Keeps S w w') (hd : ∀ b, b < w.heap.size → Z b → ¬ S b) : PartR Z w' p M := by
  obtain ⟨ah, ch, ad, cd, h1, h2, h3, h4⟩ := h
  exact ⟨ah, ch, ad, cd, blk_keep h1 hk (hd p (blk_lt h1) h2), h2, h3.keep hk (fun b hb h => hd b hb h.1), h4.keep hk (fun b hb h => hd b hb h.1)⟩
/-- a block known whole is a row of its own -/
theorem own_full {w : World} {b n : Nat} {xs : List Value} {T : TypeId} (h : Blk w b xs.toArray T) (hl : xs.length = n) (hm : n ≤ maxLen) : Own (fun i => i = b) w T 1 (.slice (some ⟨b, 0, none⟩) n n) n xs :=
  ⟨⟨by rw [hl, Nat.mul_one], .inr ⟨b, n, xs.toArray, rfl, Nat.zero_le _, h, Nat.le_refl _, hm, by simp [hl], by simp only [Nat.mul_one]; rw [List.take_of_length_le (by rw [hl]; exact Nat.le_refl _)]⟩⟩, fun i hi => by injection hi with hi; simp at hi; exact hi.symm⟩
set_option maxRecDepth 100000 in set_option maxHeartbeats 1000000 in
theorem NewPart_any (id : Int) (w : World) : Calls Tryd.prog 16 #[.int .i64 id] w fun e w' => e = .returned (.pointer (some ⟨w.heap.size, 0, none⟩)) ∧ PartR (fun b => b = w.heap.size) w' w.heap.size (newM id) ∧ Keeps (fun _ => False) w w' := by
  go_enter Tryd.func16, Tryd.ntmps16
  go_wp2
  go_ret
  exact ⟨rfl, ⟨none, 0, none, 0, blk_new _ _ _, rfl, Own.nil _ _ _ _, Own.nil _ _ _ _⟩, keeps_alloc _ _ _⟩
def Valid (x : Seg) : Prop := 0 ≤ x.t ∧ x.t ≤ 65536 ∧ x.d.length ≤ 256 ∧ 0 ≤ x.o ∧ x.o ≤ x.t - x.d.length
instance (x : Seg) : Decidable (Valid x) := by unfold Valid; infer_instance
set_option maxRecDepth 100000 in set_option maxHeartbeats 1000000 in
theorem valid_any (x : Seg) (a : Option Addr) (c : Nat) (w : World) :
    Calls Tryd.prog 38 #[.agg #[.int .i64 x.f, .int .i64 x.o, .int .i64 x.t, .int .u32 (x.s : Int), .slice a x.d.length c]] w fun e w' => e = .returned (.bool (decide (Valid x))) ∧ Keeps (fun _ => False) w w' := by
  have KA := hid (keeps_alloc (fun _ => False) w (.cells #[.int .i64 x.f, .int .i64 x.o, .int .i64 x.t, .int .u32 (x.s : Int), .slice a x.d.length c] 57))
  have HV : Hd (Valid x ↔ 0 ≤ x.t ∧ x.t ≤ 65536 ∧ x.d.length ≤ 256 ∧ 0 ≤ x.o ∧ x.o ≤ x.t - x.d.length) := hid Iff.rfl
  obtain ⟨r, hr⟩ : ∃ r, decide (Valid x) = r := ⟨_, rfl⟩
  rw [hr]
  have HR : Hd (r = true ↔ 0 ≤ x.t ∧ x.t ≤ 65536 ∧ x.d.length ≤ 256 ∧ 0 ≤ x.o ∧ x.o ≤ x.t - x.d.length) := hid (by rw [← hr, decide_eq_true_iff]; exact HV.out)
  clear hr HV
  generalize x.d.length = n at *
  have RF : Hd (¬ (0 ≤ x.t ∧ x.t ≤ 65536 ∧ n ≤ 256 ∧ 0 ≤ x.o ∧ x.o ≤ x.t - n) → r = false) := hid (fun h => by cases r; rfl; exact absurd (HR.out.1 rfl) h)
  go_enter Tryd.func38, Tryd.ntmps38
  by_cases h1 : 0 ≤ x.t
  · have d1 : decide (0 ≤ x.t) = true := by simp; exact h1
    by_cases h2 : x.t ≤ 65536
    · have d2 : decide (x.t ≤ 65536) = true := by simp; exact h2
      by_cases h3 : n ≤ 256
      · have d3 : decide ((n : Int) ≤ 256) = true := by simp; omega
        by_cases h4 : 0 ≤ x.o
        · have d4 : decide (0 ≤ x.o) = true := by simp; exact h4
          have u1 : IntKind.i64.wrap (x.t - n) = x.t - n := IntWalk.i64_in _ (by omega)
          by_cases h5 : x.o ≤ x.t - n
          · have d5 : decide (x.o ≤ x.t - n) = true := by simp; exact h5
            have HT : Hd (r = true) := hid (HR.out.2 ⟨h1, h2, h3, h4, h5⟩)
            clear h1 h2 h3 h4 h5
            go_wp2
            go_ret
            exact ⟨by rw [HT.out]; rfl, KA.out⟩
          · have d5 : decide (x.o ≤ x.t - n) = false := by simp; omega
            have HT : Hd (r = false) := hid (RF.out (by omega))
            clear h1 h2 h3 h4 h5
            go_wp2
            go_ret
            exact ⟨by rw [HT.out]; rfl, KA.out⟩
        · have d4 : decide (0 ≤ x.o) = false := by simp; omega
          have HT : Hd (r = false) := hid (RF.out (by omega))
          clear h1 h2 h3 h4
          go_wp2
          go_ret
          exact ⟨by rw [HT.out]; rfl, KA.out⟩
      · have d3 : decide ((n : Int) ≤ 256) = false := by simp; omega
        have HT : Hd (r = false) := hid (RF.out (by omega))
        clear h1 h2 h3
        go_wp2
        go_ret
        exact ⟨by rw [HT.out]; rfl, KA.out⟩
    · have d2 : decide (x.t ≤ 65536) = false := by simp; omega
      have HT : Hd (r = false) := hid (RF.out (by omega))
      clear h1 h2
      go_wp2
      go_ret
      exact ⟨by rw [HT.out]; rfl, KA.out⟩
  · have d1 : decide (0 ≤ x.t) = false := by simp; omega
    have HT : Hd (r = false) := hid (RF.out (by omega))
    clear h1
    go_wp2
    go_ret
    exact ⟨by rw [HT.out]; rfl, KA.out⟩
end Go.Proofs.YtgfekgceeigdiaaDoor
