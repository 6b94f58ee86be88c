/- The items of the wire laws. -/
import Derived.Test.YtlebocjcelbbpaaWireV
namespace Go.Proofs.Ytlebocjcelbbpaa
open Go.RowKit

structure It where
  kind : Int
  u : Nat
  n : Int
  b : List Nat
  l : List Int
  most : Int
def It.ok (x : It) : Prop := (-9223372036854775808 ≤ x.kind ∧ x.kind ≤ 9223372036854775807) ∧ x.u ≤ 18446744073709551615 ∧ (-9223372036854775808 ≤ x.n ∧ x.n ≤ 9223372036854775807) ∧ (∀ c ∈ x.b, c < 256) ∧
  (∀ n ∈ x.l, -9223372036854775808 ≤ n ∧ n ≤ 9223372036854775807) ∧ (-9223372036854775808 ≤ x.most ∧ x.most ≤ 9223372036854775807)
def It.wt (x : It) : Nat := x.b.length + 10 * x.l.length + 20
def encIt (x : It) : List Nat := if x.kind = 0 then enc x.u else if x.kind = 1 then encI x.n else if x.kind = 2 then encB x.b else encL x.l
def encAll (l : List It) : List Nat := l.flatMap encIt
def wts (l : List It) : Nat := (l.map It.wt).sum
theorem encB_len (b : List Nat) (h : b.length ≤ 18446744073709551615) : (encB b).length ≤ 10 + b.length := by
  have := enc_len10 h; simp [encB]; omega
theorem encL_len (l : List Int) (h : l.length ≤ 18446744073709551615) (hr : ∀ n ∈ l, -9223372036854775808 ≤ n ∧ n ≤ 9223372036854775807) : (encL l).length ≤ 10 + 10 * l.length := by
  have h1 := enc_len10 h
  have h2 := flatMap_len l hr
  simp only [encL, List.length_append]; omega
theorem encIt_len {x : It} (h : x.ok) (hw : x.wt ≤ 1000000000000) : (encIt x).length ≤ x.wt := by
  obtain ⟨_, h2, h3, h4, h5, _⟩ := h
  unfold It.wt at *
  unfold encIt
  split
  · have := enc_len10 h2; omega
  · split
    · have := enc_len10 (zig_le h3.1 h3.2); unfold encI; omega
    · split
      · have := encB_len x.b (by omega); omega
      · have := encL_len x.l (by omega) h5; omega
theorem wts_cons (x : It) (l : List It) : wts (x :: l) = x.wt + wts l := by simp [wts]
theorem wts_take (l : List It) (k : Nat) : wts (l.take k) ≤ wts l := by
  induction l generalizing k with
  | nil => simp
  | cons x l ih => cases k with
    | zero => simp [wts]
    | succ k => rw [List.take_succ_cons, wts_cons, wts_cons]; have := ih k; omega
theorem wts_mem {l : List It} {x : It} (h : x ∈ l) : x.wt ≤ wts l := by
  induction l with
  | nil => cases h
  | cons y l ih =>
    rw [wts_cons]
    rcases List.mem_cons.1 h with rfl | h
    · omega
    · have := ih h; omega
theorem encAll_len {l : List It} (h : ∀ x ∈ l, x.ok) (hw : wts l ≤ 1000000000000) : (encAll l).length ≤ wts l := by
  induction l with
  | nil => simp [encAll, wts]
  | cons x l ih =>
    rw [wts_cons] at *
    have h1 := encIt_len (h x List.mem_cons_self) (by omega)
    have h2 := ih (fun y hy => h y (List.mem_cons_of_mem _ hy)) (by omega)
    simp only [encAll, List.flatMap_cons, List.length_append] at *
    omega
theorem wts_len (l : List It) : 20 * l.length ≤ wts l := by
  induction l with
  | nil => simp [wts]
  | cons x l ih => rw [wts_cons]; simp [It.wt]; omega
theorem encAll_take_succ {l : List It} {k : Nat} (h : k < l.length) : encAll (l.take (k + 1)) = encAll (l.take k) ++ encIt l[k] := by
  rw [List.take_succ_eq_append_getElem h, encAll, encAll, List.flatMap_append, List.flatMap_singleton]
theorem wts_append (a b : List It) : wts (a ++ b) = wts a + wts b := by simp [wts]
theorem wts_take_succ {l : List It} {k : Nat} (h : k < l.length) : wts (l.take k) + l[k].wt ≤ wts l := by
  have h1 := wts_take l (k + 1)
  rw [List.take_succ_eq_append_getElem h, wts_append, wts_cons] at h1
  omega

/-- an item's six cells -/
def ItCells (K : Nat → Prop) (w : World) (c : Nat → Value) (x : It) : Prop :=
  c 0 = .int .i64 x.kind ∧ c 1 = .int .u64 (x.u : Nat) ∧ c 2 = .int .i64 x.n ∧ Sl K w (c 3) (u8s x.b) ∧ Sl K w (c 4) (i64s x.l) ∧ c 5 = .int .i64 x.most
/-- a slice of items -/
def Its (K : Nat → Prop) (w : World) (v : Value) (l : List It) : Prop :=
  ∃ xs, Row K w 6 v l.length xs ∧ ∀ i (h : i < l.length), ItCells K w (fun j => xs.getD (i * 6 + j) undef) l[i]
theorem Its.keep {K S : Nat → Prop} {w w' : World} {v : Value} {l : List It} (h : Its K w v l) (hk : Keeps S w w') (hd : ∀ b, b < w.heap.size → K b → ¬ S b) : Its K w' v l := by
  obtain ⟨xs, h1, h2⟩ := h
  refine ⟨xs, h1.keep hk hd, fun i hi => ?_⟩
  obtain ⟨c0, c1, c2, c3, c4, c5⟩ := h2 i hi
  exact ⟨c0, c1, c2, c3.keep hk hd, c4.keep hk hd, c5⟩
theorem Its.form {K : Nat → Prop} {w : World} {v : Value} {l : List It} (h : Its K w v l) : ∃ a cap, v = .slice a l.length cap ∧
    (∀ k (hk : k < l.length), ∃ b o vb vl, a = some ⟨b, o, none⟩ ∧ K b ∧ w.cell? ⟨b, o + k * 6, none⟩ = some (.int .i64 l[k].kind) ∧ w.cell? ⟨b, o + k * 6 + 1, none⟩ = some (.int .u64 (l[k].u : Nat)) ∧ w.cell? ⟨b, o + k * 6 + 2, none⟩ = some (.int .i64 l[k].n) ∧
      w.cell? ⟨b, o + k * 6 + 3, none⟩ = some vb ∧ w.cell? ⟨b, o + k * 6 + 4, none⟩ = some vl ∧ w.cell? ⟨b, o + k * 6 + 5, none⟩ = some (.int .i64 l[k].most) ∧ Sl K w vb (u8s l[k].b) ∧ Sl K w vl (i64s l[k].l)) := by
  obtain ⟨xs, h1, h2⟩ := h
  obtain ⟨a, cap, rfl, _, _, h3⟩ := h1.form
  refine ⟨a, cap, rfl, fun k hk => ?_⟩
  obtain ⟨b, o, rfl, h4, h5, h6⟩ := h3 (by omega)
  obtain ⟨c0, c1, c2, c3, c4, c5⟩ := h2 k hk
  have key : ∀ j, j < 6 → w.cell? ⟨b, o + k * 6 + j, none⟩ = some (xs.getD (k * 6 + j) undef) := fun j hj => by rw [Nat.add_assoc]; exact h6 _ (by omega)
  exact ⟨b, o, _, _, rfl, h4, (key 0 (by omega)).trans (congrArg some c0), (key 1 (by omega)).trans (congrArg some c1), (key 2 (by omega)).trans (congrArg some c2), key 3 (by omega), key 4 (by omega), (key 5 (by omega)).trans (congrArg some c5), c3, c4⟩
end Go.Proofs.Ytlebocjcelbbpaa
