/- Custody: Base, Region, Held, StepRow, AppStep: walks and plain facts. -/
import Derived.WalkKit
import Derived.WalkSpells
import Derived.WalkLawsBesides
import Derived.Deep.QuietTactic
import Derived.BigQuiet
import Derived.Maps.AppendAt
import Derived.Laws.AppendOwnNone
import Derived.StillTail
import Derived.Deep.Cut
import Derived.Deep.RegionHeld
import Derived.Deep.RegionHeldLaw
import Derived.Deep.RegionLawGrows
namespace Go.Proofs.YtgfekgceeigdiaaDoor
open Go.RowKit

/-- a fact kept from the walk, behind a structure: nothing looks into it -/
structure Hd (p : Prop) : Prop where
  out : p
theorem hid {p : Prop} (h : p) : Hd p := ⟨h⟩
/-- only draws lie between the two worlds -/
def Drawn (w w' : World) : Prop := ∃ n, w' = w.drewN n
theorem Drawn.refl (w : World) : Drawn w w := ⟨0, rfl⟩
theorem drawn_n {w w' : World} (h : Drawn w w') (n : Nat) : Drawn w (w'.drewN n) := by obtain ⟨m, rfl⟩ := h; exact ⟨m + n, by rw [World.drewN_drewN]⟩
theorem drawn_1 {w w' : World} (h : Drawn w w') : Drawn w w'.drew := drawn_n h 1
theorem Drawn.trans {w w' w'' : World} (h : Drawn w w') (k : Drawn w' w'') : Drawn w w'' := by obtain ⟨n, rfl⟩ := k; exact drawn_n h n
theorem Drawn.cell {w w' : World} (h : Drawn w w') {a : Addr} {v : Option Value} (hv : w.cell? a = v) : w'.cell? a = v := by obtain ⟨n, rfl⟩ := h; exact hv
theorem Drawn.heap {w w' : World} (h : Drawn w w') : w'.heap = w.heap := by obtain ⟨n, rfl⟩ := h; rfl
theorem ret_bool {a b : Bool} (h : a = b) : Ending.returned (.bool a) = .returned (.bool b) := by rw [h]
theorem ret_int {k : IntKind} {a b : Int} (h : a = b) : Ending.returned (.int k a) = .returned (.int k b) := by rw [h]

/-- the blocks outside S are as they were -/
structure Keeps (S : Nat → Prop) (w w' : World) : Prop where
  os : w'.os = w.os
  tape : w'.tape = w.tape
  output : w'.output = w.output
  size : w.heap.size ≤ w'.heap.size
  block : ∀ k, k < w.heap.size → ¬ S k → w'.heap[k]? = w.heap[k]?

theorem Keeps.refl (S : Nat → Prop) (w : World) : Keeps S w w := ⟨rfl, rfl, rfl, Nat.le_refl _, fun _ _ _ => rfl⟩
theorem Keeps.trans {S : Nat → Prop} {a b c : World} (h : Keeps S a b) (k : Keeps S b c) : Keeps S a c :=
  ⟨k.os.trans h.os, k.tape.trans h.tape, k.output.trans h.output, Nat.le_trans h.size k.size, fun i hi hs => (k.block i (Nat.lt_of_lt_of_le hi h.size) hs).trans (h.block i hi hs)⟩
/-- what a later step touches may be new blocks -/
theorem Keeps.trans' {S T : Nat → Prop} {a b c : World} (h : Keeps S a b) (k : Keeps T b c) (hT : ∀ i, i < a.heap.size → T i → S i) : Keeps S a c :=
  ⟨k.os.trans h.os, k.tape.trans h.tape, k.output.trans h.output, Nat.le_trans h.size k.size, fun i hi hs => (k.block i (Nat.lt_of_lt_of_le hi h.size) (fun t => hs (hT i hi t))).trans (h.block i hi hs)⟩
theorem Keeps.after {a b c : World} (h : Keeps (fun _ => False) a b) (k : Keeps (fun i => a.heap.size ≤ i) b c) : Keeps (fun _ => False) a c := h.trans' k (fun i hi hs => by omega)
theorem Keeps.mono {S T : Nat → Prop} {a b : World} (h : Keeps S a b) (hT : ∀ i, i < a.heap.size → S i → T i) : Keeps T a b :=
  ⟨h.os, h.tape, h.output, h.size, fun i hi hs => h.block i hi (fun s => hs (hT i hi s))⟩
theorem Keeps.drewN {S : Nat → Prop} {a w : World} (h : Keeps S a w) (n : Nat) : Keeps S a (w.drewN n) := ⟨h.os, h.tape, h.output, h.size, h.block⟩
theorem Keeps.drew {S : Nat → Prop} {a w : World} (h : Keeps S a w) : Keeps S a w.drew := ⟨h.os, h.tape, h.output, h.size, h.block⟩
theorem Keeps.alloc {S : Nat → Prop} {a w : World} (h : Keeps S a w) (o : Obj) : Keeps S a (w.alloc o) :=
  ⟨h.os, h.tape, h.output, Nat.le_trans h.size (by simp), fun k hk hs => (Below.heap_alloc w o k (Nat.lt_of_lt_of_le hk h.size)).trans (h.block k hk hs)⟩
theorem Keeps.setCell {S : Nat → Prop} {a w : World} (h : Keeps S a w) {p : Addr} (hp : S p.block ∨ a.heap.size ≤ p.block) (u : Value) : Keeps S a (w.setCell p u) :=
  ⟨h.os, h.tape, h.output, by simpa [World.setCell] using h.size, fun k hk hs => (Below.heap_setCell w p u k (by
    rintro rfl
    rcases hp with hp | hp
    · exact hs hp
    · omega)).trans (h.block k hk hs)⟩
theorem Keeps.grown {S : Nat → Prop} {a w w' : World} {row : Option Nat} (h : Keeps S a w) (hg : w.grownBy w' row) (hr : ∀ k, row = some k → S k ∨ a.heap.size ≤ k) : Keeps S a w' :=
  ⟨hg.os.trans h.os, hg.tape.trans h.tape, hg.output.trans h.output, Nat.le_trans h.size hg.size, fun k hk hs => (hg.block k (Nat.lt_of_lt_of_le hk h.size) (fun e => by
    rcases hr k e.symm with hx | hx
    · exact hs hx
    · omega)).trans (h.block k hk hs)⟩
theorem Keeps.cell {S : Nat → Prop} {w w' : World} (h : Keeps S w w') {p : Addr} (hp : p.block < w.heap.size) (hs : ¬ S p.block) : w'.cell? p = w.cell? p := World.cell?_of_block (h.block p.block hp hs)
theorem Keeps.frozen {S : Nat → Prop} {w w' : World} (h : Keeps S w w') {p : Addr} (hp : p.block < w.heap.size) (hs : ¬ S p.block) : w'.frozen? p = w.frozen? p := World.frozen?_of_block (h.block p.block hp hs)
theorem Keeps.below {S : Nat → Prop} {w w' : World} {B : Nat} (h : Keeps S w w') (hB : B ≤ w.heap.size) (hS : ∀ k, k < B → ¬ S k) : Below B w w' :=
  ⟨h.os, h.tape, h.output, h.size, fun k hk => h.block k (Nat.lt_of_lt_of_le hk hB) (hS k hk)⟩
theorem Keeps.of_below {w w' : World} {B : Nat} (h : Below B w w') : Keeps (fun k => B ≤ k) w w' :=
  ⟨h.os, h.tape, h.output, h.size, fun k _ hs => h.block k (by omega)⟩

theorem cell_lt {w : World} {b o : Nat} {v : Value} (h : w.cell? ⟨b, o, none⟩ = some v) : b < w.heap.size := by
  rcases Nat.lt_or_ge b w.heap.size with hlt | hge
  · exact hlt
  · simp [World.cell?, Array.getElem?_eq_none hge] at h
theorem keep_cell {S : Nat → Prop} {w w' : World} {b o : Nat} {v : Value} (h : Keeps S w w') (hs : ¬ S b) (hc : w.cell? ⟨b, o, none⟩ = some v) : w'.cell? ⟨b, o, none⟩ = some v := (h.cell (p := ⟨b, o, none⟩) (cell_lt hc) hs).trans hc
theorem keep_free {S : Nat → Prop} {w w' : World} {b o : Nat} {v : Value} {f : Bool} (h : Keeps S w w') (hs : ¬ S b) (hc : w.cell? ⟨b, o, none⟩ = some v) (hf : w.frozen? ⟨b, o, none⟩ = f) : w'.frozen? ⟨b, o, none⟩ = f := (h.frozen (p := ⟨b, o, none⟩) (cell_lt hc) hs).trans hf
/-- a block that is known whole -/
def Blk (w : World) (b : Nat) (cs : Array Value) (T : TypeId) : Prop := w.heap[b]? = some (.cells cs T (0, 0))
section
variable {w w' : World} {b c o : Nat} {cs : Array Value} {T : TypeId} {v : Value}
theorem blk_lt (h : Blk w b cs T) : b < w.heap.size := by
  rcases Nat.lt_or_ge b w.heap.size with hlt | hge
  · exact hlt
  · simp [Blk, Array.getElem?_eq_none hge] at h
theorem blk_cell (h : Blk w b cs T) (o : Nat) : w.cell? ⟨b, o, none⟩ = cs[o]? := by unfold Blk at h; simp [World.cell?, h]
theorem blk_free (h : Blk w b cs T) (o : Nat) : w.frozen? ⟨b, o, none⟩ = false := by unfold Blk at h; simp [World.frozen?, h]
theorem blk_keep {S : Nat → Prop} (h : Blk w b cs T) (hk : Keeps S w w') (hs : ¬ S b) : Blk w' b cs T := (hk.block b (blk_lt h) hs).trans h
theorem blk_set (h : Blk w b cs T) (o : Nat) (v : Value) : Blk (w.setCell ⟨b, o, none⟩ v) b (cs.setIfInBounds o v) T := by
  unfold Blk at *; simp [World.setCell, Array.getElem?_modify, h]
theorem blk_other (h : Blk w b cs T) (hne : c ≠ b) (o : Nat) (v : Value) : Blk (w.setCell ⟨c, o, none⟩ v) b cs T := by
  unfold Blk at *; simp [World.setCell, Array.getElem?_modify, h, hne]
theorem blk_new (w : World) (cs : Array Value) (T : TypeId) : Blk (w.alloc (.cells cs T)) w.heap.size cs T := heap_alloc_new w _
theorem blk_new' (w : World) (cs : Array Value) (T : TypeId) (n : Nat) (h : n = w.heap.size) : Blk (w.alloc (.cells cs T)) n cs T := by subst h; exact blk_new w cs T
theorem blk_alloc (h : Blk w b cs T) (o : Obj) : Blk (w.alloc o) b cs T := (Below.heap_alloc w o b (blk_lt h)).trans h
theorem blk_drewN (h : Blk w b cs T) (n : Nat) : Blk (w.drewN n) b cs T := h
theorem blk_drew (h : Blk w b cs T) : Blk w.drew b cs T := h
end
/-- a slice that lies in blocks of K: n elements of `size` cells each; xs are all its cells -/
def Row (K : Nat → Prop) (w : World) (size : Nat) (v : Value) (n : Nat) (xs : List Value) : Prop :=
  xs.length = n * size ∧
  ((v = .slice none 0 0 ∧ n = 0) ∨
  ∃ x cap, v = .slice (some x) n cap ∧ n ≤ cap ∧ cap ≤ maxLen ∧ (0 < n → ∃ b o, x = ⟨b, o, none⟩ ∧ K b ∧ b < w.heap.size ∧ ∀ j, j < n * size → w.cell? ⟨b, o + j, none⟩ = some (xs.getD j undef)))
/-- .. of one-cell elements -/
def Sl (K : Nat → Prop) (w : World) (v : Value) (xs : List Value) : Prop := Row K w 1 v xs.length xs

theorem Row.form {K : Nat → Prop} {w : World} {size : Nat} {v : Value} {n : Nat} {xs : List Value} (h : Row K w size v n xs) :
    ∃ a cap, v = .slice a n cap ∧ n ≤ cap ∧ cap ≤ maxLen ∧
      (0 < n → ∃ b o, a = some ⟨b, o, none⟩ ∧ K b ∧ b < w.heap.size ∧ ∀ j, j < n * size → w.cell? ⟨b, o + j, none⟩ = some (xs.getD j undef)) := by
  obtain ⟨_, ⟨rfl, rfl⟩ | ⟨x, cap, rfl, h1, h2, h3⟩⟩ := h
  · exact ⟨none, 0, rfl, Nat.le_refl _, by simp [maxLen], fun h => by omega⟩
  · exact ⟨_, cap, rfl, h1, h2, fun hn => by obtain ⟨b, o, rfl, h4⟩ := h3 hn; exact ⟨b, o, rfl, h4⟩⟩
theorem Row.keep {K S : Nat → Prop} {w w' : World} {size : Nat} {v : Value} {n : Nat} {xs : List Value} (h : Row K w size v n xs) (hk : Keeps S w w') (hd : ∀ b, b < w.heap.size → K b → ¬ S b) : Row K w' size v n xs := by
  obtain ⟨h0, h | ⟨x, cap, rfl, h1, h2, h3⟩⟩ := h
  · exact ⟨h0, .inl h⟩
  · exact ⟨h0, .inr ⟨x, cap, rfl, h1, h2, fun hn => by
      obtain ⟨b, o, rfl, h4, h5, h6⟩ := h3 hn
      exact ⟨b, o, rfl, h4, Nat.lt_of_lt_of_le h5 hk.size, fun j hj => by rw [hk.cell (p := ⟨b, o + j, none⟩) h5 (hd b h5 h4)]; exact h6 j hj⟩⟩⟩
theorem Row.mono {K K' : Nat → Prop} {w : World} {size : Nat} {v : Value} {n : Nat} {xs : List Value} (h : Row K w size v n xs) (hd : ∀ b, b < w.heap.size → K b → K' b) : Row K' w size v n xs := by
  obtain ⟨h0, h | ⟨x, cap, rfl, h1, h2, h3⟩⟩ := h
  · exact ⟨h0, .inl h⟩
  · exact ⟨h0, .inr ⟨x, cap, rfl, h1, h2, fun hn => by
      obtain ⟨b, o, rfl, h4, h5, h6⟩ := h3 hn
      exact ⟨b, o, rfl, hd b h5 h4, h5, h6⟩⟩⟩
theorem Sl.form {K : Nat → Prop} {w : World} {v : Value} {xs : List Value} (h : Sl K w v xs) :
    ∃ a cap, v = .slice a xs.length cap ∧ xs.length ≤ cap ∧ cap ≤ maxLen ∧
      (0 < xs.length → ∃ b o, a = some ⟨b, o, none⟩ ∧ K b ∧ b < w.heap.size ∧ ∀ j, j < xs.length → w.cell? ⟨b, o + j, none⟩ = some (xs.getD j undef)) := by
  have := Row.form h
  rw [Nat.mul_one] at this
  exact this
theorem Sl.keep {K S : Nat → Prop} {w w' : World} {v : Value} {xs : List Value} (h : Sl K w v xs) (hk : Keeps S w w') (hd : ∀ b, b < w.heap.size → K b → ¬ S b) : Sl K w' v xs := Row.keep h hk hd
theorem Sl.mono {K K' : Nat → Prop} {w : World} {v : Value} {xs : List Value} (h : Sl K w v xs) (hd : ∀ b, b < w.heap.size → K b → K' b) : Sl K' w v xs := Row.mono h hd
theorem sl_row {K : Nat → Prop} {w : World} {v : Value} {xs : List Value} {n : Nat} (h : Sl K w v xs) (hn : xs.length = n) : Row K w 1 v n xs := by subst hn; exact h
theorem Sl.nil (K : Nat → Prop) (w : World) : Sl K w (.slice none 0 0) [] := ⟨rfl, .inl ⟨rfl, rfl⟩⟩

/-- a row of the call's own: nil, or at the head of a block of S that nobody else has -/
def Own (S : Nat → Prop) (w : World) (e : TypeId) (size : Nat) (v : Value) (n : Nat) (xs : List Value) : Prop :=
  w.ownsRow 0 e size v n xs ∧ ∀ k, v.ownBlock = some k → S k
theorem Own.nil (S : Nat → Prop) (w : World) (e : TypeId) (size : Nat) : Own S w e size (.slice none 0 0) 0 [] := ⟨World.ownsRow_nil _ _ _ _, fun k h => by simp [Value.ownBlock] at h⟩
theorem Own.row {S : Nat → Prop} {w : World} {e : TypeId} {size : Nat} {v : Value} {n : Nat} {xs : List Value} (h : Own S w e size v n xs) : Row S w size v n xs := by
  obtain ⟨⟨h0, ⟨rfl, rfl⟩ | ⟨g, cap, cur, rfl, h1, h2, h3, h4, h5, h6⟩⟩, hS⟩ := h
  · exact ⟨h0, .inl ⟨rfl, rfl⟩⟩
  · refine ⟨h0, .inr ⟨⟨g, 0, none⟩, cap, rfl, h3, h4, fun _ => ⟨g, 0, rfl, hS g rfl, ?_, fun j hj => ?_⟩⟩⟩
    · rcases Nat.lt_or_ge g w.heap.size with hlt | hge
      · exact hlt
      · rw [Array.getElem?_eq_none hge] at h2; simp at h2
    · have hl : xs.length = n * size := h0
      have hcur : j < cur.size := by rw [h5]; exact Nat.lt_of_lt_of_le hj (Nat.mul_le_mul_right _ h3)
      subst h6
      simp [World.cell?, h2, List.getD, hj, hcur]
theorem Own.keep {K S : Nat → Prop} {w w' : World} {e : TypeId} {size : Nat} {v : Value} {n : Nat} {xs : List Value} (h : Own K w e size v n xs) (hk : Keeps S w w') (hd : ∀ b, b < w.heap.size → K b → ¬ S b) : Own K w' e size v n xs := by
  obtain ⟨⟨h0, ⟨rfl, rfl⟩ | ⟨g, cap, cur, rfl, h1, h2, h3, h4, h5, h6⟩⟩, hS⟩ := h
  · exact ⟨⟨h0, .inl ⟨rfl, rfl⟩⟩, hS⟩
  · have hlt : g < w.heap.size := by
      rcases Nat.lt_or_ge g w.heap.size with hlt | hge
      · exact hlt
      · rw [Array.getElem?_eq_none hge] at h2; simp at h2
    exact ⟨⟨h0, .inr ⟨g, cap, cur, rfl, h1, (hk.block g hlt (hd g hlt (hS g rfl))).trans h2, h3, h4, h5, h6⟩⟩, hS⟩
theorem Own.mono {K K' : Nat → Prop} {w : World} {e : TypeId} {size : Nat} {v : Value} {n : Nat} {xs : List Value} (h : Own K w e size v n xs) (hd : ∀ b, b < w.heap.size → K b → K' b) : Own K' w e size v n xs := by
  refine ⟨h.1, fun k hk => ?_⟩
  have := h.1.lt k hk
  exact hd k this.2 (h.2 k hk)
theorem Own.alloc {K : Nat → Prop} {w : World} {e : TypeId} {size : Nat} {v : Value} {n : Nat} {xs : List Value} (h : Own K w e size v n xs) (o : Obj) : Own K (w.alloc o) e size v n xs := ⟨h.1.alloc o, h.2⟩
theorem Own.drewN {K : Nat → Prop} {w : World} {e : TypeId} {size : Nat} {v : Value} {n : Nat} {xs : List Value} (h : Own K w e size v n xs) (k : Nat) : Own K (w.drewN k) e size v n xs := h

/-- numbers of one kind in a slice -/
def u8s (l : List Nat) : List Value := l.map fun (n : Nat) => Value.int .u8 n
def i64s (l : List Int) : List Value := l.map fun n => Value.int .i64 n
def u64s (l : List Nat) : List Value := l.map fun (n : Nat) => Value.int .u64 n
@[simp] theorem u8s_length (l : List Nat) : (u8s l).length = l.length := by simp [u8s]
@[simp] theorem i64s_length (l : List Int) : (i64s l).length = l.length := by simp [i64s]
@[simp] theorem u64s_length (l : List Nat) : (u64s l).length = l.length := by simp [u64s]
theorem u8s_getD (l : List Nat) (j : Nat) (h : j < l.length) : (u8s l).getD j undef = .int .u8 (l.getD j 0 : Nat) := by simp [u8s, List.getD, h]
theorem i64s_getD (l : List Int) (j : Nat) (h : j < l.length) : (i64s l).getD j undef = .int .i64 (l.getD j 0) := by simp [i64s, List.getD, h]
theorem Sl.bytes {K : Nat → Prop} {w : World} {v : Value} {l : List Nat} (h : Sl K w v (u8s l)) :
    ∃ a cap, v = .slice a l.length cap ∧ l.length ≤ cap ∧ cap ≤ maxLen ∧
      (0 < l.length → ∃ b o, a = some ⟨b, o, none⟩ ∧ K b ∧ b < w.heap.size ∧ ∀ j, j < l.length → w.cell? ⟨b, o + j, none⟩ = some (.int .u8 (l.getD j 0 : Nat))) := by
  obtain ⟨a, cap, h0, h1, h2, h3⟩ := h.form
  rw [u8s_length] at *
  refine ⟨a, cap, h0, h1, h2, fun hp => ?_⟩
  obtain ⟨b, o, h4, h5, h6, h7⟩ := h3 hp
  exact ⟨b, o, h4, h5, h6, fun j hj => by rw [h7 j hj, u8s_getD l j hj]⟩
theorem Sl.ints {K : Nat → Prop} {w : World} {v : Value} {l : List Int} (h : Sl K w v (i64s l)) :
    ∃ a cap, v = .slice a l.length cap ∧ l.length ≤ cap ∧ cap ≤ maxLen ∧
      (0 < l.length → ∃ b o, a = some ⟨b, o, none⟩ ∧ K b ∧ b < w.heap.size ∧ ∀ j, j < l.length → w.cell? ⟨b, o + j, none⟩ = some (.int .i64 (l.getD j 0))) := by
  obtain ⟨a, cap, h0, h1, h2, h3⟩ := h.form
  rw [i64s_length] at *
  refine ⟨a, cap, h0, h1, h2, fun hp => ?_⟩
  obtain ⟨b, o, h4, h5, h6, h7⟩ := h3 hp
  exact ⟨b, o, h4, h5, h6, fun j hj => by rw [h7 j hj, i64s_getD l j hj]⟩

theorem Sl.bcases {K : Nat → Prop} {w : World} {v : Value} {l : List Nat} (h : Sl K w v (u8s l)) : (v = .slice none 0 0 ∧ l = []) ∨ ∃ x cap, v = .slice (some x) l.length cap := by
  rcases h with ⟨_, ⟨rfl, h1⟩ | ⟨x, cap, rfl, _⟩⟩
  · exact .inl ⟨rfl, by simpa using h1⟩
  · exact .inr ⟨x, cap, by rw [u8s_length]⟩
theorem Sl.icases {K : Nat → Prop} {w : World} {v : Value} {l : List Int} (h : Sl K w v (i64s l)) : (v = .slice none 0 0 ∧ l = []) ∨ ∃ x cap, v = .slice (some x) l.length cap := by
  rcases h with ⟨_, ⟨rfl, h1⟩ | ⟨x, cap, rfl, _⟩⟩
  · exact .inl ⟨rfl, by simpa using h1⟩
  · exact .inr ⟨x, cap, by rw [i64s_length]⟩
theorem row_cut {K : Nat → Prop} {w : World} {size m cap : Nat} {a : Option Addr} {xs : List Value} (h : Row K w size (.slice a m cap) m xs) (lo hi : Nat) (h1 : lo ≤ hi) (h2 : hi ≤ m) :
    Row K w size (sliced a lo hi cap size) (hi - lo) ((xs.drop (lo * size)).take ((hi - lo) * size)) := by
  have e1 : hi * size = lo * size + (hi - lo) * size := by rw [← Nat.add_mul]; congr 1; omega
  have e2 : hi * size ≤ m * size := Nat.mul_le_mul_right _ h2
  obtain ⟨h0, ⟨hv, rfl⟩ | ⟨x, cap', hv, g1, g2, g3⟩⟩ := h
  · injection hv with hv1 _ hv2
    subst hv1 hv2
    obtain rfl : hi = 0 := by omega
    obtain rfl : lo = 0 := by omega
    exact ⟨by simp, .inl ⟨by simp [sliced], rfl⟩⟩
  · injection hv with hv1 _ hv2
    subst hv1 hv2
    refine ⟨by rw [List.length_take, List.length_drop]; omega, .inr ?_⟩
    unfold sliced
    by_cases hc : cap = lo
    · subst hc
      obtain rfl : hi = cap := by omega
      exact ⟨x, 0, by simp, by omega, by omega, fun hn => by omega⟩
    · rw [if_neg hc]
      refine ⟨x.add (lo * size), cap - lo, by simp, by omega, by omega, fun hn => ?_⟩
      obtain ⟨b, o, rfl, g4, g5, g6⟩ := g3 (by omega)
      have key : ∀ j, j < (hi - lo) * size → w.cell? ⟨b, o + lo * size + j, none⟩ = some (((xs.drop (lo * size)).take ((hi - lo) * size)).getD j undef) := by
        intro j hj
        have := g6 (lo * size + j) (by omega)
        rw [← Nat.add_assoc] at this
        rw [this]
        simp [List.getD, List.getElem?_take, hj]
      by_cases hz : lo * size = 0
      · exact ⟨b, o, by simp [Addr.add, hz], g4, g5, fun j hj => by have := key j hj; rw [hz] at this; simpa [hz] using this⟩
      · exact ⟨b, o + lo * size, by simp [Addr.add, hz], g4, g5, key⟩
/-- a slice expression, for every world: one equation for the walk, the value behind a name -/
theorem run_cut {P : Program} {t e : TypeId} {i : TypeInfo} {size : Nat} (ht : P.underlying t = some (.slice e)) (hi : P.info? e = some i) (hsz : i.size = size) {K : Nat → Prop} {w0 : World} {m cap : Nat} {a : Option Addr} {xs : List Value}
    (h : Row K w0 size (.slice a m cap) m xs) {lo hh : Int} (l u : Nat) (hl : lo = l) (hu : hh = u) (h1 : l ≤ u) (h2 : u ≤ m) :
    ∃ a2 c2, (∀ w, (Instr.slice t (.slice a m cap) (some (.int .i64 lo)) (some (.int .i64 hh)) none).run P w = .ok (.slice a2 (u - l) c2) w) ∧ Row K w0 size (.slice a2 (u - l) c2) (u - l) ((xs.drop (l * size)).take ((u - l) * size)) := by
  subst hl hu
  have hc : m ≤ cap := by
    obtain ⟨_, c2, h3, h4, _⟩ := h.form
    injection h3 with _ _ h5; omega
  have he : P.elem t = e := by simp [Program.elem, ht]
  have h3 := row_cut h l u h1 h2
  obtain ⟨a2, c2, h4, _⟩ := h3.form
  refine ⟨a2, c2, fun w => ?_, by rw [← h4]; exact h3⟩
  have h5 := run_slice_lh (P := P) (w := w) t a m cap (by rw [he]; exact ht) .i64 .i64 l u (by omega) (by omega) (by omega)
  rw [h5, ← h4, he]
  simp [sizeOf, typeInfo, hi, hsz, Result.andThen]
theorem run_cut_from {P : Program} {t e : TypeId} {i : TypeInfo} {size : Nat} (ht : P.underlying t = some (.slice e)) (hi : P.info? e = some i) (hsz : i.size = size) {K : Nat → Prop} {w0 : World} {m cap : Nat} {a : Option Addr} {xs : List Value}
    (h : Row K w0 size (.slice a m cap) m xs) {lo : Int} (l : Nat) (hl : lo = l) (h1 : l ≤ m) :
    ∃ a2 c2, (∀ w, (Instr.slice t (.slice a m cap) (some (.int .i64 lo)) none none).run P w = .ok (.slice a2 (m - l) c2) w) ∧ Row K w0 size (.slice a2 (m - l) c2) (m - l) ((xs.drop (l * size)).take ((m - l) * size)) := by
  subst hl
  have he : P.elem t = e := by simp [Program.elem, ht]
  have h3 := row_cut h l m h1 (Nat.le_refl _)
  obtain ⟨a2, c2, h4, _⟩ := h3.form
  refine ⟨a2, c2, fun w => ?_, by rw [← h4]; exact h3⟩
  have h5 := run_slice_l (P := P) (w := w) t a m cap (by rw [he]; exact ht) .i64 l (by omega) (by omega)
  rw [h5, ← h4, he]
  simp [sizeOf, typeInfo, hi, hsz, Result.andThen]
theorem run_cut_to {P : Program} {t e : TypeId} {i : TypeInfo} {size : Nat} (ht : P.underlying t = some (.slice e)) (hi : P.info? e = some i) (hsz : i.size = size) {K : Nat → Prop} {w0 : World} {m cap : Nat} {a : Option Addr} {xs : List Value}
    (h : Row K w0 size (.slice a m cap) m xs) {hh : Int} (u : Nat) (hu : hh = u) (h2 : u ≤ m) :
    ∃ a2 c2, (∀ w, (Instr.slice t (.slice a m cap) none (some (.int .i64 hh)) none).run P w = .ok (.slice a2 u c2) w) ∧ Row K w0 size (.slice a2 u c2) u (xs.take (u * size)) := by
  subst hu
  have hc : m ≤ cap := by
    obtain ⟨_, c2, h3, h4, _⟩ := h.form
    injection h3 with _ _ h5; omega
  have he : P.elem t = e := by simp [Program.elem, ht]
  have h3 := row_cut h 0 u (Nat.zero_le _) h2
  obtain ⟨a2, c2, h4, _⟩ := h3.form
  simp only [Nat.sub_zero, Nat.zero_mul, List.drop_zero] at h3 h4
  refine ⟨a2, c2, fun w => ?_, by rw [← h4]; exact h3⟩
  have h5 := run_slice_h (P := P) (w := w) t a m cap (by rw [he]; exact ht) .i64 u (by omega) (by omega)
  rw [h5, ← h4, he]
  simp [sizeOf, typeInfo, hi, hsz, Result.andThen]
theorem row_sl {K : Nat → Prop} {w : World} {v : Value} {xs : List Value} {n : Nat} (h : Row K w 1 v n xs) (hn : xs.length = n) : Sl K w v xs := by subst hn; exact h
theorem agree_step {α : Type} (d : α) (xs ys : List α) (k : Nat) (h : ∀ j, j < k → xs.getD j d = ys.getD j d) (hk : xs.getD k d = ys.getD k d) : ∀ j, j < k + 1 → xs.getD j d = ys.getD j d := by
  intro j hj
  rcases Nat.lt_or_ge j k with h1 | h1
  · exact h j h1
  · have : j = k := by omega
    subst this; exact hk
theorem agree_all {α : Type} (d : α) (xs ys : List α) (n : Nat) (h1 : xs.length = n) (h2 : ys.length = n) (h : ∀ j, j < n → xs.getD j d = ys.getD j d) : xs = ys := by
  apply List.ext_getElem (by omega)
  intro i hi1 hi2
  have := h i (by omega)
  simpa [List.getD, hi1, hi2] using this

theorem u8s_append (a b : List Nat) : u8s (a ++ b) = u8s a ++ u8s b := by simp [u8s]
theorem u8s_one (l : List Nat) : ∀ u ∈ u8s l, u.oneCell' = true := by intro u hu; simp [u8s] at hu; obtain ⟨n, _, rfl⟩ := hu; rfl
theorem i64s_one (l : List Int) : ∀ u ∈ i64s l, u.oneCell' = true := by intro u hu; simp [i64s] at hu; obtain ⟨n, _, rfl⟩ := hu; rfl
theorem src_one {K : Nat → Prop} {w : World} (x : Value) (t : TypeId) (hK : K w.heap.size) : Row K (w.alloc (.cells #[x] t)) 1 (.slice (some ⟨w.heap.size, 0, none⟩) 1 1) 1 [x] :=
  ⟨rfl, .inr ⟨_, 1, rfl, Nat.le_refl _, by simp [maxLen], fun _ => ⟨w.heap.size, 0, rfl, hK, by simp, fun j hj => by
    obtain rfl : j = 0 := by omega
    exact cell_one_new w x t 0 x rfl⟩⟩⟩
theorem keeps_alloc (S : Nat → Prop) (w : World) (o : Obj) : Keeps S w (w.alloc o) := (Keeps.refl S w).alloc o
theorem keeps_set (S : Nat → Prop) (w : World) (p : Addr) (u : Value) (hp : S p.block) : Keeps S w (w.setCell p u) := (Keeps.refl S w).setCell (.inl hp) u
/-- append to a row of the call's own, from whatever slice -/
theorem wpList_append_row {P : Program} {w : World} {ops : Array Oper} {rest : List Oper} {o : Oper} {a : Act} {Q : Exit → Act → World → Prop} (hgd : o.guard = none) (s x : Operand) (t : TypeId)
    (ho : o.op = .call { callee := .builtin .append, args := #[s, x], argTypes := #[t, t] })
    (e : TypeId) (i : TypeInfo) (z : Value) (size bytes : Nat) (ht : P.underlying t = some (.slice e)) (hi : P.info? e = some i) (hz : i.zero = some z)
    (hsize : i.size = size) (hby : i.bytes = bytes) (hzs : z.cells.size = size) (hsz : 0 < size)
    (S K : Nat → Prop) (v u : Value) (n : Nat) (xs : List Value) (hs : a.eval s = v) (hown : Own S w e size v n xs)
    (m : Nat) (news : List Value) (hx : a.eval x = u) (hsrc : Row K w size u m news) (h1 : ∀ u ∈ news, u.oneCell' = true)
    (h63 : n + m ≤ maxLen) (hbytes : (n + m) * bytes ≤ 140737488355328)
    (h' : ∀ a' cap' w', Own (fun k => S k ∨ w.heap.size ≤ k) w' e size (.slice a' (n + m) cap') (n + m) (xs ++ news) → Keeps S w w' → ((Value.slice a' (n + m) cap') = .slice none 0 0 ↔ v = .slice none 0 0 ∧ m = 0) → wpList P ops Q rest (a.put o.dst (.slice a' (n + m) cap')) w') :
    wpList P ops Q (o :: rest) a w := by
  have h : ∀ v' w', Own (fun k => S k ∨ w.heap.size ≤ k) w' e size v' (n + m) (xs ++ news) → Keeps S w w' → (v' = .slice none 0 0 ↔ v = .slice none 0 0 ∧ m = 0) → wpList P ops Q rest (a.put o.dst v') w' := by
    intro v' w' h1 h2 h3
    obtain ⟨a', cap', rfl, _⟩ := h1.row.form
    exact h' a' cap' w' h1 h2 h3
  obtain ⟨hl, ⟨rfl, rfl⟩ | ⟨ad, cap, rfl, h2, h3, h4⟩⟩ := hsrc
  · rw [Nat.zero_mul] at hl
    obtain rfl := List.eq_nil_of_length_eq_zero hl
    refine wpList_append_own_none hgd s x t ho 0 e i size ht hi v n xs hs hown.1 hx (h v w ?_ (Keeps.refl _ _) ?_)
    · simpa using hown.mono (fun b _ hb => .inl hb)
    · simp
  · refine wpList_append_own_at w hgd s x t ho 0 e i z size bytes ht hi hz hsize hby hzs hsz v n xs hs hown.1 ad m cap news hx hl (fun j u hu => ?_) h1 h63 hbytes (Nat.zero_le _) (fun v' w' g1 g2 g3 g4 => h v' w' ⟨g1, fun k hk => ?_⟩ ?_ g3)
    · have hj : j < news.length := by
        rcases Nat.lt_or_ge j news.length with hlt | hge
        · exact hlt
        · rw [List.getElem?_eq_none hge] at hu; simp at hu
      have hm0 : 0 < m := by
        rcases Nat.eq_zero_or_pos m with h0 | h0
        · subst h0; omega
        · exact h0
      obtain ⟨b, off, rfl, _, _, h6⟩ := h4 hm0
      have := h6 j (by omega)
      rw [List.getD, hu] at this
      unfold Addr.add
      split
      · rename_i h0; subst h0; simpa using this
      · simpa using this
    · rcases g4 with g4 | g4
      · exact .inl (hown.2 k (g4.symm.trans hk))
      · rw [g4] at hk; injection hk with hk; subst hk; exact .inr (Nat.le_refl _)
    · exact (Keeps.refl S w).grown g2 (fun k hk => .inl (hown.2 k hk))
theorem drawn_keeps {w w' : World} (S : Nat → Prop) (h : Drawn w w') : Keeps S w w' := by obtain ⟨m, rfl⟩ := h; exact (Keeps.refl _ _).drewN _
/-- a world that extends W: what was there is as it was -/
structure Ext (W : World) where
  w : World
  k : Keeps (fun _ => False) W w
instance (W : World) : Nonempty (Ext W) := ⟨⟨W, Keeps.refl _ _⟩⟩
/-- a region that draws its order, whose operations read, and whose calls hand back plain values and leave what was there as it was -/
theorem wp_region_ext {P : Program} {id : Nat} {Q : Exit → Act → World → Prop} {a : Act} {w : World} {l : List Oper} (hm : P.follows .mixedOrders = true) (hB : Region.lexB .any l.toArray = true)
    (h : wpQuiet P l.toArray (fun w' => ∃ x : Ext w, w' = x.w) (fun a' => ∀ w', (∃ x : Ext w, w' = x.w) → Q .normal a' w') l a) : (Code.region id l.toArray true).wp P Q a w :=
  wp_region_quiet (C := fun w' => ∃ x : Ext w, w' = x.w) hm hB ⟨⟨_, (Keeps.refl (fun _ => False) w).drew⟩, rfl⟩ (by simpa using h)
theorem ext_same {P : Program} {f : FuncId} {args : Array Value} {W : World} {x : Ext W} {v : Value} (h : Calls P f args x.w fun e w' => e = .returned v ∧ x.w = w') :
    Calls P f args x.w fun e w'' => e = .returned v ∧ ∃ y : Ext W, w'' = y.w :=
  h.mono fun _ w' ⟨h1, h2⟩ => ⟨h1, x, h2.symm⟩
theorem ext_cell {W : World} {b o : Nat} {v : Value} (hc : W.cell? ⟨b, o, none⟩ = some v) (x : Ext W) : x.w.cell? ⟨b, o, none⟩ = some v := keep_cell x.k (fun h => h) hc
end Go.Proofs.YtgfekgceeigdiaaDoor
namespace Go.Proofs.YtgfekgceeigdiaaDoor
open Go.RowKit

section
variable {P : Program} {ops : Array Oper} {md : Region.Mode} {C : World → Prop}

end
/-- a struct of two cells stored into a block of the call's own -/
theorem fin2 {w W : World} {b : Nat} {T : TypeId} {c0 c1 : Value} (hk : Keeps (fun _ => False) w W) (hb : w.heap.size ≤ b) (hB : Blk W b #[c0, c1] T) (u0 u1 : Value) :
    Keeps (fun _ => False) w ((W.setCell ⟨b, 0, none⟩ u0).setCell ⟨b, 1, none⟩ u1) ∧ Blk ((W.setCell ⟨b, 0, none⟩ u0).setCell ⟨b, 1, none⟩ u1) b #[u0, u1] T :=
  ⟨(hk.setCell (.inr hb) _).setCell (.inr hb) _, blk_set (blk_set hB 0 u0) 1 u1⟩
end Go.Proofs.YtgfekgceeigdiaaDoor
namespace Go.Proofs.YtgfekgceeigdiaaDoor
open Go.RowKit
/-- a struct in a block that W had not, with a fact about its cells and what they point to -/
def CutF (W : World) (T : TypeId) (P : Nat → Array Value → World → Prop) (u : Value) (wx : World) : Prop := ∃ bx cs, u = .pointer (some ⟨bx, 0, none⟩) ∧ W.heap.size ≤ bx ∧ Hd (Blk wx bx cs T) ∧ Hd (P bx cs wx) ∧ Hd (Keeps (fun _ => False) W wx)
theorem keq {b : Nat} {w w' : World} (h : Keeps (fun i => i = b) w w') (o : Nat) (v : Value) : Keeps (fun i => i = b) w (w'.setCell ⟨b, o, none⟩ v) := h.setCell (S := fun i => i = b) (p := ⟨b, o, none⟩) (.inl rfl) v
section
variable {W w2 : World} {T : TypeId} {P : Nat → Array Value → World → Prop} {b : Nat} {c0 c1 c2 c3 c4 c5 z0 z1 z2 z3 z4 z5 : Value}
theorem cutF_new {cs : Array Value} (hk : Keeps (fun _ => False) W w2) (hP : ∀ w', Keeps (fun _ => False) w2 w' → P w2.heap.size cs w') : CutF W T P (.pointer (some ⟨w2.heap.size, 0, none⟩)) (w2.alloc (.cells cs T)) :=
  ⟨_, cs, rfl, hk.size, hid (blk_new _ _ _), hid (hP _ (keeps_alloc _ _ _)), hid (hk.alloc _)⟩
theorem cutF_drew {u : Value} {wx : World} (hP : ∀ w' bx cs, P bx cs w' → P bx cs w'.drew) (h : CutF W T P u wx) : CutF W T P u wx.drew := by
  obtain ⟨bx, cs, h1, h2, h3, h4, h5⟩ := h
  exact ⟨bx, cs, h1, h2, hid h3.out, hid (hP _ _ _ h4.out), hid h5.out.drew⟩
end
end Go.Proofs.YtgfekgceeigdiaaDoor
namespace Go.Proofs.YtgfekgceeigdiaaDoor
open Go.RowKit
theorem row_cells {K : Nat → Prop} {w : World} {size n c : Nat} {ad : Addr} {xs : List Value} (h : Row K w size (.slice (some ad) n c) n xs) : ∀ j u, xs[j]? = some u → w.cell? (ad.add j) = some u := by
  intro j u hu
  obtain ⟨h0, ⟨h1, _⟩ | ⟨x, cap, h1, h2, h3, h4⟩⟩ := h
  · injection h1 with h1; cases h1
  · injection h1 with h1 _ _
    injection h1 with h1
    subst h1
    have hj : j < xs.length := (List.getElem?_eq_some_iff.1 hu).1
    have hn : 0 < n := by
      rcases Nat.eq_zero_or_pos n with h0' | h0'
      · subst h0'; omega
      · exact h0'
    obtain ⟨b, off, rfl, _, _, h6⟩ := h4 hn
    have := h6 j (by omega)
    rw [List.getD, hu] at this
    unfold Addr.add
    split
    · rename_i h0; subst h0; simpa using this
    · simpa using this
/-- a row of the call's own, and any row behind it -/
theorem step_append_own_row {P : Program} {ops : Array Oper} {o : Oper} {a : Act} {w : World} {K : Act → World → Prop} {Q : Exit → Act → World → Prop} {E : Prop}
    (hg : o.guard = none) (s x : Operand) (t : TypeId) (hop : o.op = Op.call { callee := Callee.builtin Builtin.append, args := #[s, x], argTypes := #[t, t] })
    (e : TypeId) (i : TypeInfo) (z : Value) (size bytes : Nat) (ht : P.underlying t = some (.slice e)) (hi : P.info? e = some i) (hz : i.zero = some z)
    (hsize : i.size = size) (hby : i.bytes = bytes) (hzs : z.cells.size = size) (hsz : 0 < size)
    (S K2 : Nat → Prop) (v u : Value) (n : Nat) (xs : List Value) (hs : a.eval s = v) (hown : Own S w e size v n xs)
    (m : Nat) (news : List Value) (hx : a.eval x = u) (hsrc : Row K2 w size u m news) (h1 : ∀ u ∈ news, u.oneCell' = true)
    (h63 : n + m ≤ maxLen) (hbytes : (n + m) * bytes ≤ 140737488355328)
    (hK : ∀ a' cap' w', Own (fun k => S k ∨ w.heap.size ≤ k) w' e size (.slice a' (n + m) cap') (n + m) (xs ++ news) → Keeps S w w' → K (a.put o.dst (.slice a' (n + m) cap')) w') :
    if Region.wanted o (yielded ops a.tmps) = true then Oper.wp P o a w K Q else E := by
  have hw : Region.wanted o (yielded ops a.tmps) = true := by simp [Region.wanted, hg]
  rw [if_pos hw]
  obtain ⟨a2, c2, rfl, _⟩ := hsrc.form
  cases a2 with
  | none =>
    have hm0 : m = 0 ∧ c2 = 0 := by
      rcases hsrc.2 with ⟨h, _⟩ | ⟨_, _, h, _⟩
      · injection h with _ h2 h3; exact ⟨h2, h3⟩
      · injection h with h; cases h
    obtain ⟨rfl, rfl⟩ := hm0
    obtain rfl : news = [] := List.eq_nil_of_length_eq_zero (by have := hsrc.1; omega)
    have hrun := run_append_owned_none (P := P) (w := w) 0 t o.type e i size ht hi v n xs hown.1
    obtain ⟨a', cap', rfl, _⟩ := hown.row.form
    have := hK a' cap' w (by simpa using hown.mono (fun b _ hb => .inl hb)) (Keeps.refl _ _)
    unfold Oper.wp
    simp [execOp, hop, resolve, invoke, builtin, hs, hx, hrun, Result.andThen]
    simp only [Nat.add_zero] at this
    exact this
  | some ad =>
    obtain ⟨v', w', hrun, g1, g2, g3, g4⟩ := run_append_own_at (P := P) w 0 t o.type e i z size bytes ht hi hz hsize hby hzs hsz v n xs hown.1 ad m c2 news hsrc.1 (row_cells hsrc) h1 h63 hbytes (Nat.zero_le _)
    have hO : Own (fun k => S k ∨ w.heap.size ≤ k) w' e size v' (n + m) (xs ++ news) := ⟨g1, fun k hk => by
      rcases g4 with g4 | g4
      · exact .inl (hown.2 k (g4.symm.trans hk))
      · rw [g4] at hk; injection hk with hk; subst hk; exact .inr (Nat.le_refl _)⟩
    obtain ⟨a', cap', rfl, _⟩ := hO.row.form
    have := hK a' cap' w' hO ((Keeps.refl S w).grown g2 (fun k hk => .inl (hown.2 k hk)))
    unfold Oper.wp
    simp [execOp, hop, resolve, invoke, builtin, hs, hx, hrun, Result.andThen]
    exact this
/-- a row without room, and a literal behind it -/
theorem step_append_full {P : Program} {ops : Array Oper} {o : Oper} {a : Act} {w : World} {K : Act → World → Prop} {Q : Exit → Act → World → Prop} {E : Prop}
    (hg : o.guard = none) (s x : Operand) (t : TypeId) (hop : o.op = Op.call { callee := Callee.builtin Builtin.append, args := #[s, x], argTypes := #[t, t] })
    (e : TypeId) (i : TypeInfo) (z : Value) (size bytes : Nat) (h1 : P.underlying t = some (.slice e)) (h2 : P.info? e = some i) (h3 : i.zero = some z) (h4 : i.size = size) (h5 : i.bytes = bytes) (h6 : z.cells.size = size) (h7 : 0 < size)
    (K2 : Nat → Prop) (ao : Option Addr) (n : Nat) (olds : List Value) (hs : a.eval s = .slice ao n n) (hrow : Row K2 w size (.slice ao n n) n olds)
    (ad : Addr) (m c : Nat) (news : List Value) (hx : a.eval x = .slice (some ad) m c) (hn : news.length = m * size) (hc : ∀ j u, news[j]? = some u → w.cell? (ad.add j) = some u) (h1c : ∀ u ∈ news, u.oneCell' = true)
    (hm : 0 < m) (b1 : n + m ≤ maxLen) (b2 : (n + m) * bytes ≤ 140737488355328)
    (hK : ∀ a' cap' w', Own (fun k => w.heap.size ≤ k) w' e size (.slice a' (n + m) cap') (n + m) (olds ++ news) → Keeps (fun _ => False) w w' → K (a.put o.dst (.slice a' (n + m) cap')) w') :
    if Region.wanted o (yielded ops a.tmps) = true then Oper.wp P o a w K Q else E := by
  refine step_append_grows hg s x t hop e i z size bytes h1 h2 h3 h4 h5 h6 h7 ao n n olds hs ?_ hrow.1 ?_ ad m c news hx hn hc h1c (by omega) b1 b2 (fun v' w' g1 g2 => ?_)
  · rintro rfl
    rcases hrow.2 with ⟨h, _⟩ | ⟨_, _, h, _⟩
    · injection h with _ h2 h3; exact ⟨h2, h3⟩
    · injection h with h; cases h
  · rintro b rfl
    exact row_cells hrow
  · have hO : Own (fun k => w.heap.size ≤ k) w' e size v' (n + m) (olds ++ news) := ⟨⟨g1.1, g1.2.imp id (fun ⟨g, cap, cur, r1, r2, r3⟩ => ⟨g, cap, cur, r1, Nat.zero_le _, r3⟩)⟩, fun k hk => (g1.lt k hk).1⟩
    obtain ⟨a', cap', rfl, _⟩ := hO.row.form
    exact hK a' cap' w' hO ((Keeps.refl _ w).grown g2 (fun k hk => by cases hk))
/-- l[:k:k] -/
theorem run_cut_full {P : Program} {t e : TypeId} {i : TypeInfo} {size : Nat} (ht : P.underlying t = some (.slice e)) (hi : P.info? e = some i) (hsz : i.size = size) {K : Nat → Prop} {w0 : World} {m cap : Nat} {a : Option Addr} {xs : List Value}
    (h : Row K w0 size (.slice a m cap) m xs) (u : Nat) (h2 : u ≤ m) :
    ∃ a2, (∀ w, (Instr.slice t (.slice a m cap) none (some (.int .i64 u)) (some (.int .i64 u))).run P w = .ok (.slice a2 u u) w) ∧ Row K w0 size (.slice a2 u u) u (xs.take (u * size)) := by
  have hc : m ≤ cap := by
    obtain ⟨_, c2, h3, h4, _⟩ := h.form
    injection h3 with _ _ h5; omega
  have hm : cap ≤ maxLen := by
    obtain ⟨_, c2, h3, _, h4, _⟩ := h.form
    injection h3 with _ _ h5; omega
  have he : P.elem t = e := by simp [Program.elem, ht]
  have hx : sliced a 0 u u size = .slice (if u = 0 then a else a.map (·.add (0 * size))) u u := by simp [sliced]
  refine ⟨if u = 0 then a else a.map (·.add (0 * size)), fun w => ?_, ?_⟩
  · have h5 := run_slice_hm (P := P) (w := w) t a m cap (by rw [he]; exact ht) .i64 .i64 u u (by omega) (by omega) (by omega)
    rw [h5, he]
    simp [sizeOf, typeInfo, hi, hsz, Result.andThen, sliced]
  · have hl : (xs.take (u * size)).length = u * size := by
      rw [List.length_take, h.1]; exact Nat.min_eq_left (Nat.mul_le_mul_right _ h2)
    refine ⟨hl, ?_⟩
    obtain ⟨h0, ⟨hv, rfl⟩ | ⟨x, cap', hv, g1, g2, g3⟩⟩ := h
    · injection hv with hv1 _ hv2
      obtain rfl : u = 0 := by omega
      left; simp [hv1]
    · injection hv with hv1 _ hv2
      subst hv1; subst hv2
      right
      rcases Nat.eq_zero_or_pos u with hu | hu
      · subst hu
        exact ⟨x, 0, by simp, Nat.le_refl _, by omega, fun h => by omega⟩
      · obtain ⟨b, o, rfl, g4, g5, g6⟩ := g3 (by omega)
        refine ⟨⟨b, o, none⟩, u, ?_, Nat.le_refl _, by omega, fun _ => ⟨b, o, rfl, g4, g5, fun j hj => ?_⟩⟩
        · rw [if_neg (by omega)]; simp [Addr.add]
        · rw [g6 j (Nat.lt_of_lt_of_le hj (Nat.mul_le_mul_right _ h2))]
          simp [List.getD, hj]
end Go.Proofs.YtgfekgceeigdiaaDoor
namespace Go.Proofs.YtgfekgceeigdiaaDoor
open Go.RowKit
/-- append to a row of the call's own, as one step of a region that draws -/
theorem step_append_row {P : Program} {ops : Array Oper} {o : Oper} {a : Act} {w : World} {K : Act → World → Prop} {Q : Exit → Act → World → Prop} {E : Prop}
    (hg : o.guard = none) (s x : Operand) (t : TypeId) (hop : o.op = Op.call { callee := Callee.builtin Builtin.append, args := #[s, x], argTypes := #[t, t] })
    (e : TypeId) (i : TypeInfo) (z : Value) (size bytes : Nat) (ht : P.underlying t = some (.slice e)) (hi : P.info? e = some i) (hz : i.zero = some z)
    (hsize : i.size = size) (hby : i.bytes = bytes) (hzs : z.cells.size = size) (hsz : 0 < size)
    (S : Nat → Prop) (v : Value) (n : Nat) (xs : List Value) (hs : a.eval s = v) (hown : Own S w e size v n xs)
    (ad : Addr) (m c : Nat) (news : List Value) (hx : a.eval x = .slice (some ad) m c) (hl : news.length = m * size) (hc : ∀ j u, news[j]? = some u → w.cell? (ad.add j) = some u) (h1 : ∀ u ∈ news, u.oneCell' = true)
    (h63 : n + m ≤ maxLen) (hbytes : (n + m) * bytes ≤ 140737488355328)
    (hK : ∀ a' cap' w', Own (fun k => S k ∨ w.heap.size ≤ k) w' e size (.slice a' (n + m) cap') (n + m) (xs ++ news) → Keeps S w w' → K (a.put o.dst (.slice a' (n + m) cap')) w') :
    if Region.wanted o (yielded ops a.tmps) = true then Oper.wp P o a w K Q else E := by
  have hw : Region.wanted o (yielded ops a.tmps) = true := by simp [Region.wanted, hg]
  rw [if_pos hw]
  obtain ⟨v', w', hrun, g1, g2, g3, g4⟩ := run_append_own_at (P := P) w 0 t o.type e i z size bytes ht hi hz hsize hby hzs hsz v n xs hown.1 ad m c news hl hc h1 h63 hbytes (Nat.zero_le _)
  have hO : Own (fun k => S k ∨ w.heap.size ≤ k) w' e size v' (n + m) (xs ++ news) := ⟨g1, fun k hk => by
    rcases g4 with g4 | g4
    · exact .inl (hown.2 k (g4.symm.trans hk))
    · rw [g4] at hk; injection hk with hk; subst hk; exact .inr (Nat.le_refl _)⟩
  obtain ⟨a', cap', rfl, _⟩ := hO.row.form
  have := hK a' cap' w' hO ((Keeps.refl S w).grown g2 (fun k hk => .inl (hown.2 k hk)))
  unfold Oper.wp
  simp [execOp, hop, resolve, invoke, builtin, hs, hx, hrun, Result.andThen]
  exact this
theorem lit_src (w : World) (cs : List Value) (T : TypeId) : ∀ (j : Nat) (u : Value), cs[j]? = some u → (w.alloc (.cells cs.toArray T)).cell? ((⟨w.heap.size, 0, none⟩ : Addr).add j) = some u := by
  intro j u hu
  have h := blk_cell (blk_new w cs.toArray T) j
  unfold Addr.add
  split
  · rename_i h0; subst h0; rw [h]; simpa using hu
  · simp only [Nat.zero_add]; rw [h]; simpa using hu
end Go.Proofs.YtgfekgceeigdiaaDoor
