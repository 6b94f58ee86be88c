/- What is written is read: lists. -/
import Derived.Test.YtgeicbjlichdgaaDoorWireB
namespace Go.Proofs.YtgeicbjlichdgaaDoor.Wi
open Go.RowKit
theorem sI_enc (r : List Nat) {n : Int} (h1 : -9223372036854775808 ≤ n) (h2 : n ≤ 9223372036854775807) : sI (0, encI n ++ r) = ((0, r), n) := by
  unfold sI encI
  rw [sU_enc r (zig_le h1 h2)]
  simp [zag_zig]
theorem sSize_enc (r : List Nat) {n : Nat} {most : Int} (h : n ≤ 18446744073709551615) (hm : (n : Int) ≤ most) : sSize most (0, enc n ++ r) = ((0, r), n) := by
  unfold sSize
  rw [sU_enc r h]
  have : ¬ (most < 0 ∨ most < n) := by omega
  simp [this]
theorem sLoop_enc (l : List Int) : ∀ (acc : List Int) (r : List Nat), (∀ n ∈ l, -9223372036854775808 ≤ n ∧ n ≤ 9223372036854775807) → sLoop l.length (0, l.flatMap encI ++ r) acc = ((0, r), acc ++ l) := by
  induction l with
  | nil => intro acc r _; simp [sLoop]
  | cons n l ih =>
    intro acc r h
    rw [List.length_cons, sLoop_one rfl, List.flatMap_cons, List.append_assoc]
    have hn := h n List.mem_cons_self
    rw [sI_enc _ hn.1 hn.2]
    show sLoop l.length (0, l.flatMap encI ++ r) (acc ++ [n]) = _
    rw [ih _ r (fun x hx => h x (List.mem_cons_of_mem _ hx))]
    simp
theorem sL_enc (r : List Nat) {l : List Int} {most : Int} (h : l.length ≤ 18446744073709551615) (hr : ∀ n ∈ l, -9223372036854775808 ≤ n ∧ n ≤ 9223372036854775807) (hm : (l.length : Int) ≤ most) : sL most (0, encL l ++ r) = ((0, r), l) := by
  have : sLs most (0, encL l ++ r) = ((0, r), l) := by
    unfold sLs encL
    rw [List.append_assoc, sSize_enc _ h hm]
    simpa using sLoop_enc l [] r hr
  simp [sL, this]
def BufAt (w : World) (p : Nat) (xs : List Nat) : Prop := Buf (fun k => p < k) w p xs
theorem BufAt.lt {w : World} {p : Nat} {xs : List Nat} (h : BufAt w p xs) : p < w.heap.size := h.choose_spec.2.2.2.2
theorem BufAt.keep {S : Nat → Prop} {w w' : World} {p : Nat} {xs : List Nat} (h : BufAt w p xs) (hk : Keeps S w w') (hd : ∀ b, b < w.heap.size → p ≤ b → ¬ S b) : BufAt w' p xs := Buf.keep h hk (hd p h.lt (Nat.le_refl _)) (fun b hb hs => hd b hb (Nat.le_of_lt hs))
theorem BufAt.post {S : Nat → Prop} {w w' : World} {p : Nat} {xs ys : List Nat} (h0 : Buf S w p ys) (hS : ∀ b, S b → p < b) (h : BufPost S w p xs w') : BufAt w' p xs ∧ Keeps (fun k => p ≤ k) w w' := by
  have hp := h0.choose_spec.2.2.2.2
  obtain ⟨⟨v, h1, h2, h3, h4, h5⟩, h6⟩ := h
  exact ⟨⟨v, h1, h2, h3.mono (fun b _ hb => by rcases hb with hb | hb; exact hS b hb; omega), by omega, h5⟩, h6.mono (fun i _ hi => by rcases hi with hi | hi; exact Nat.le_of_lt (hS i hi); omega)⟩
theorem BufAt.tight {w : World} {p : Nat} {xs : List Nat} (h : BufAt w p xs) : Buf (fun k => p < k ∧ k < w.heap.size) w p xs := by
  obtain ⟨v, h1, h2, h3, h4, h5⟩ := h
  exact ⟨v, h1, h2, h3.mono (fun b hb h => ⟨h, hb⟩), by omega, h5⟩
theorem BufAt.new (w : World) (T : TypeId) : BufAt (w.alloc (.cells #[.slice none 0 0] T)) w.heap.size [] :=
  ⟨.slice none 0 0, by simp, by simp, Own.nil _ _ _ _, by omega, by simp⟩
theorem Rd.lt {K : Nat → Prop} {w : World} {p : Nat} {s : St} (h : Rd K w p s) : p < w.heap.size := by
  obtain ⟨bv, bs, at_, h1, h2, h3, h4, h5, h6, h7, h8, h9⟩ := h
  exact h8

theorem sl_three (w : World) (x y z : Int) : Sl (fun k => k = w.heap.size) (w.alloc (.cells #[.int .i64 x, .int .i64 y, .int .i64 z] 3)) (.slice (some ⟨w.heap.size, 0, none⟩) 3 3) (i64s [x, y, z]) := by
  refine ⟨rfl, .inr ⟨_, 3, rfl, Nat.le_refl 3, by decide, fun _ => ⟨w.heap.size, 0, rfl, rfl, by simp, fun j hj => ?_⟩⟩⟩
  have hB := blk_new w #[.int .i64 x, .int .i64 y, .int .i64 z] 3
  rw [Nat.zero_add, blk_cell hB]
  have h4 : j < 3 := hj
  rcases j with _ | _ | _ | j
  · rfl
  · rfl
  · rfl
  · omega
theorem packed_len (x y z : Int) (h : ∀ n ∈ [x, y, z], -9223372036854775808 ≤ n ∧ n ≤ 9223372036854775807) : (encL [x, y, z]).length ≤ 100 := by
  unfold encL
  rw [List.length_append]
  have h1 := enc_len10 (n := [x, y, z].length) (by simp)
  have h2 := flatMap_len [x, y, z] h
  simp at h1 h2 ⊢; omega
theorem packed_lt (l : List Int) : ∀ c ∈ encL l, c < 256 := by
  intro c hc
  unfold encL at hc
  rcases List.mem_append.1 hc with hc | hc
  · exact enc_lt _ _ hc
  · obtain ⟨n, _, hn⟩ := List.mem_flatMap.1 hc
    exact enc_lt _ _ hn
end Go.Proofs.YtgeicbjlichdgaaDoor.Wi
