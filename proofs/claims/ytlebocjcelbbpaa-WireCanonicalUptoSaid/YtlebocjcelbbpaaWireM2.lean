/- The plain laws of the items: what is written is read, and a cut is met. -/
import Derived.Test.YtlebocjcelbbpaaRead
namespace Go.Proofs.Ytlebocjcelbbpaa
open Go.RowKit

def lenIt (x : It) : Nat := if x.kind = 2 then x.b.length else x.l.length
theorem sU_cut {n j : Nat} (h : n ≤ 18446744073709551615) (hj : j < (enc n).length) : sU (0, (enc n).take j) = ((6, []), 0) := by
  have := rdU_cut n 0 0 j (by omega) (by simp; omega) hj
  simp [sU, this]
theorem sI_enc (r : List Nat) {n : Int} (h1 : -9223372036854775808 ≤ n) (h2 : n ≤ 9223372036854775807) : sI (0, encI n ++ r) = ((0, r), n) := by
  unfold sI encI
  rw [sU_enc r (zig_le h1 h2)]
  simp [zag_zig]
theorem sI_cut {n : Int} {j : Nat} (h1 : -9223372036854775808 ≤ n) (h2 : n ≤ 9223372036854775807) (hj : j < (encI n).length) : sI (0, (encI n).take j) = ((6, []), 0) := by
  unfold encI at *
  unfold sI
  rw [sU_cut (zig_le h1 h2) hj]
  simp [zag]
theorem sSize_enc (r : List Nat) {n : Nat} {most : Int} (h : n ≤ 18446744073709551615) (hm : (n : Int) ≤ most) : sSize most (0, enc n ++ r) = ((0, r), n) := by
  unfold sSize
  rw [sU_enc r h]
  have : ¬ (most < 0 ∨ most < n) := by omega
  simp [this]
theorem sSize_cut {n j : Nat} {most : Int} (h : n ≤ 18446744073709551615) (hj : j < (enc n).length) : sSize most (0, (enc n).take j) = ((6, []), 0) := by
  unfold sSize
  rw [sU_cut h hj]
  simp
theorem sB_enc (r : List Nat) {b : List Nat} {most : Int} (h : b.length ≤ 18446744073709551615) (hm : (b.length : Int) ≤ most) : sB most (0, encB b ++ r) = ((0, r), b) := by
  unfold sB encB
  rw [List.append_assoc, sSize_enc (b ++ r) h hm]
  simp
theorem take_app {α : Type} (x y : List α) (j : Nat) : (x ++ y).take j = if j < x.length then x.take j else x ++ y.take (j - x.length) := by
  split
  · rw [List.take_append_of_le_length (by omega)]
  · rename_i h
    rw [List.take_append, List.take_of_length_le (by omega)]
theorem sB_cut {b : List Nat} {j : Nat} {most : Int} (h : b.length ≤ 18446744073709551615) (hm : (b.length : Int) ≤ most) (hj : j < (encB b).length) : (sB most (0, (encB b).take j)).1.1 = 6 := by
  unfold encB at *
  rw [take_app]
  rw [List.length_append] at hj
  split
  · rename_i h1
    unfold sB; rw [sSize_cut h h1]; simp
  · rename_i h1
    unfold sB; rw [sSize_enc _ h hm]
    have h2 : (b.take (j - (enc b.length).length)).length < b.length := by rw [List.length_take]; omega
    rw [if_pos rfl, if_pos h2]
theorem sLoop_enc (l : List Int) : ∀ (acc : List Int) (r : List Nat), (∀ n ∈ l, -9223372036854775808 ≤ n ∧ n ≤ 9223372036854775807) → sLoop l.length (0, l.flatMap encI ++ r) acc = ((0, r), acc ++ l) := by
  induction l with
  | nil => intro acc r _; simp [sLoop]
  | cons n l ih =>
    intro acc r h
    rw [List.length_cons, sLoop_one rfl, List.flatMap_cons, List.append_assoc]
    have hn := h n List.mem_cons_self
    rw [sI_enc _ hn.1 hn.2]
    show sLoop l.length (0, l.flatMap encI ++ r) (acc ++ [n]) = _
    rw [ih _ r (fun x hx => h x (List.mem_cons_of_mem _ hx))]
    simp
theorem sLoop_cut (l : List Int) : ∀ (acc : List Int) (j : Nat), (∀ n ∈ l, -9223372036854775808 ≤ n ∧ n ≤ 9223372036854775807) → j < (l.flatMap encI).length → (sLoop l.length (0, (l.flatMap encI).take j) acc).1.1 = 6 := by
  induction l with
  | nil => intro acc j _ h; simp at h
  | cons n l ih =>
    intro acc j h hj
    rw [List.flatMap_cons] at *
    rw [List.length_cons, sLoop_one rfl, take_app]
    rw [List.length_append] at hj
    have hn := h n List.mem_cons_self
    split
    · rename_i h1
      rw [sI_cut hn.1 hn.2 h1, sLoop_err (by simp)]
    · rename_i h1
      rw [sI_enc _ hn.1 hn.2]
      exact ih _ _ (fun x hx => h x (List.mem_cons_of_mem _ hx)) (by omega)
theorem sL_enc (r : List Nat) {l : List Int} {most : Int} (h : l.length ≤ 18446744073709551615) (hr : ∀ n ∈ l, -9223372036854775808 ≤ n ∧ n ≤ 9223372036854775807) (hm : (l.length : Int) ≤ most) : sL most (0, encL l ++ r) = ((0, r), l) := by
  have : sLs most (0, encL l ++ r) = ((0, r), l) := by
    unfold sLs encL
    rw [List.append_assoc, sSize_enc _ h hm]
    simpa using sLoop_enc l [] r hr
  simp [sL, this]
theorem sL_cut {l : List Int} {j : Nat} {most : Int} (h : l.length ≤ 18446744073709551615) (hr : ∀ n ∈ l, -9223372036854775808 ≤ n ∧ n ≤ 9223372036854775807) (hm : (l.length : Int) ≤ most) (hj : j < (encL l).length) : (sL most (0, (encL l).take j)).1.1 = 6 := by
  have : (sLs most (0, (encL l).take j)).1.1 = 6 := by
    unfold encL at *
    rw [take_app]
    rw [List.length_append] at hj
    split
    · rename_i h1
      unfold sLs; rw [sSize_cut h h1]; simp [sLoop]
    · rename_i h1
      unfold sLs; rw [sSize_enc _ h hm]
      exact sLoop_cut l [] _ hr (by omega)
  unfold sL
  rw [if_neg (by rw [this]; decide)]
  exact this
theorem rdIt_enc (r : List Nat) {x : It} (h : x.ok) (hw : x.wt ≤ 1000000000000) : (rdIt x.kind (lenIt x) (0, encIt x ++ r)).1 = (0, r) ∧
    (x.kind = 0 → (rdIt x.kind (lenIt x) (0, encIt x ++ r)).2.u = x.u) ∧ (x.kind = 1 → (rdIt x.kind (lenIt x) (0, encIt x ++ r)).2.n = x.n) ∧ (x.kind = 2 → (rdIt x.kind (lenIt x) (0, encIt x ++ r)).2.b = x.b) ∧
    (x.kind ≠ 0 → x.kind ≠ 1 → x.kind ≠ 2 → (rdIt x.kind (lenIt x) (0, encIt x ++ r)).2.l = x.l) := by
  obtain ⟨_, h2, h3, h4, h5, _⟩ := h
  unfold It.wt at hw
  unfold rdIt encIt lenIt
  by_cases k0 : x.kind = 0
  · simp [k0, sU_enc r h2]
  · by_cases k1 : x.kind = 1
    · simp [k1, sI_enc r h3.1 h3.2]
    · by_cases k2 : x.kind = 2
      · simp [k2, sB_enc r (b := x.b) (most := x.b.length) (by omega) (by omega)]
      · simp [k0, k1, k2, sL_enc r (l := x.l) (most := x.l.length) (by omega) h5 (by omega)]
theorem rdIt_cut {x : It} {j : Nat} (h : x.ok) (hw : x.wt ≤ 1000000000000) (hj : j < (encIt x).length) : (rdIt x.kind (lenIt x) (0, (encIt x).take j)).1.1 = 6 := by
  obtain ⟨_, h2, h3, h4, h5, _⟩ := h
  unfold It.wt at hw
  unfold encIt at *
  unfold rdIt lenIt
  by_cases k0 : x.kind = 0
  · simp [k0] at *; simp [sU_cut h2 hj]
  · by_cases k1 : x.kind = 1
    · simp [k1] at *; simp [sI_cut h3.1 h3.2 hj]
    · by_cases k2 : x.kind = 2
      · simp [k2] at *; exact sB_cut (by omega) (by omega) hj
      · simp [k0, k1, k2] at *; exact sL_cut (by omega) h5 (by omega) hj
theorem rdIt_err {kind most : Int} {s : St} (h : s.1 ≠ 0) : rdIt kind most s = (s, ⟨kind, 0, 0, [], [], 0⟩) := by
  unfold rdIt
  rw [sU_err h, sI_err h, sB_err most h, sL_err most h]
  split
  · rfl
  · split
    · rfl
    · split <;> rfl
/-- what is left after the first k items of a cut encoding -/
def cutSt (l : List It) (n k : Nat) (s : St) : Prop :=
  (s.1 = 0 ∧ (encAll (l.take k)).length ≤ n ∧ s.2 = (encAll (l.drop k)).take (n - (encAll (l.take k)).length)) ∨ s.1 = 6
theorem encIt_lt {x : It} (h : x.ok) : ∀ c ∈ encIt x, c < 256 := by
  obtain ⟨_, _, _, h4, _, _⟩ := h
  unfold encIt
  split
  · exact enc_lt _
  · split
    · exact enc_lt _
    · split
      · intro c hc
        rcases List.mem_append.1 hc with hc | hc
        · exact enc_lt _ _ hc
        · exact h4 _ hc
      · intro c hc
        rcases List.mem_append.1 hc with hc | hc
        · exact enc_lt _ _ hc
        · obtain ⟨n, _, hn⟩ := List.mem_flatMap.1 hc
          exact enc_lt _ _ hn
theorem encAll_lt {l : List It} (h : ∀ x ∈ l, x.ok) : ∀ c ∈ encAll l, c < 256 := by
  intro c hc
  obtain ⟨x, hx, hn⟩ := List.mem_flatMap.1 hc
  exact encIt_lt (h x hx) c hn
theorem encAll_app (a b : List It) : encAll (a ++ b) = encAll a ++ encAll b := by simp [encAll]
theorem cutSt_zero (l : List It) (n : Nat) : cutSt l n 0 (0, (encAll l).take n) := .inl ⟨rfl, by simp [encAll], by simp [encAll]⟩
theorem cutSt_succ {l : List It} {n k : Nat} {s : St} (h : cutSt l n k s) (hk : k < l.length) (hok : ∀ x ∈ l, x.ok) (hw : wts l ≤ 1000000000000) :
    cutSt l n (k + 1) (rdIt l[k].kind (lenIt l[k]) s).1 := by
  have hx := hok _ (List.getElem_mem hk)
  have hxw := wts_mem (List.getElem_mem hk)
  rcases h with ⟨h1, h2, h3⟩ | h
  · obtain ⟨e, b⟩ := s
    simp only at h1 h3
    subst h1
    have hd : l.drop k = l[k] :: l.drop (k + 1) := List.drop_eq_getElem_cons hk
    have ht : encAll (l.take (k + 1)) = encAll (l.take k) ++ encIt l[k] := by
      rw [List.take_succ_eq_append_getElem hk, encAll_app]; simp [encAll]
    rw [hd, show encAll (l[k] :: l.drop (k + 1)) = encIt l[k] ++ encAll (l.drop (k + 1)) from List.flatMap_cons, take_app] at h3
    split at h3
    · rename_i h4
      subst h3
      exact .inr (rdIt_cut hx (by omega) h4)
    · rename_i h4
      subst h3
      have := (rdIt_enc ((encAll (l.drop (k + 1))).take (n - (encAll (l.take k)).length - (encIt l[k]).length)) hx (by omega)).1
      refine .inl ?_
      rw [this, ht, List.length_append]
      exact ⟨rfl, by omega, by rw [Nat.sub_sub]⟩
  · exact .inr (by rw [rdIt_err (by omega)]; exact h)
theorem cutSt_end {l : List It} {n : Nat} {s : St} (h : cutSt l n l.length s) (hn : n < (encAll l).length) : s.1 = 6 := by
  rcases h with ⟨_, h2, _⟩ | h
  · rw [List.take_length] at h2; omega
  · exact h
end Go.Proofs.Ytlebocjcelbbpaa
