/- What is read is what was written: plain laws for WireCanonical. -/
import Derived.Test.YtlebocjcelbbpaaWireGot
namespace Go.Proofs.Ytlebocjcelbbpaa
open Go.RowKit
theorem sI_canon {l : List Nat} (hl : ∀ c ∈ l, c < 256) (h : (sI (0, l)).1.1 = 0) : l = encI (sI (0, l)).2 ++ (sI (0, l)).1.2 := by
  have := sU_canon hl h
  unfold sI encI
  rw [zig_zag]; exact this
theorem sSize_ok0 {most : Int} {l : List Nat} (h : (sSize most (0, l)).1.1 = 0) : (sU (0, l)).1.1 = 0 ∧ sSize most (0, l) = sU (0, l) := by
  unfold sSize at h ⊢
  by_cases h1 : (sU (0, l)).1.1 = 0
  · rw [if_pos h1] at h ⊢
    by_cases h2 : most < 0 ∨ most < (sU (0, l)).2
    · rw [if_pos h2] at h; simp at h
    · rw [if_neg h2]; exact ⟨h1, rfl⟩
  · rw [if_neg h1] at h; exact absurd h h1
theorem sSize_canon {most : Int} {l : List Nat} (hl : ∀ c ∈ l, c < 256) (h : (sSize most (0, l)).1.1 = 0) : l = enc (sSize most (0, l)).2 ++ (sSize most (0, l)).1.2 := by
  obtain ⟨h1, h2⟩ := sSize_ok0 h
  rw [h2]; exact sU_canon hl h1
theorem sB_canon {most : Int} {l : List Nat} (hl : ∀ c ∈ l, c < 256) (h : (sB most (0, l)).1.1 = 0) : l = encB (sB most (0, l)).2 ++ (sB most (0, l)).1.2 := by
  unfold sB at h ⊢
  by_cases h1 : (sSize most (0, l)).1.1 = 0
  · rw [if_pos h1] at h ⊢
    by_cases h2 : (sSize most (0, l)).1.2.length < (sSize most (0, l)).2
    · rw [if_pos h2] at h; simp at h
    · rw [if_neg h2]
      have hc := sSize_canon hl h1
      simp only [encB]
      rw [List.length_take, Nat.min_eq_left (by omega), List.append_assoc, List.take_append_drop]
      exact hc
  · rw [if_neg h1] at h; exact absurd h h1
theorem sLoop_canon (n : Nat) : ∀ (l : List Nat) (acc : List Int), (∀ c ∈ l, c < 256) → (sLoop n (0, l) acc).1.1 = 0 → ∃ ys, (sLoop n (0, l) acc).2 = acc ++ ys ∧ ys.length = n ∧ l = ys.flatMap encI ++ (sLoop n (0, l) acc).1.2 := by
  induction n with
  | zero => intro l acc _ _; exact ⟨[], by simp [sLoop]⟩
  | succ n ih =>
    intro l acc hl h
    rw [sLoop_one rfl] at h ⊢
    by_cases h1 : (sI (0, l)).1.1 = 0
    · have hc := sI_canon hl h1
      have e : (sI (0, l)).1 = (0, (sI (0, l)).1.2) := Prod.ext h1 rfl
      rw [e] at h ⊢
      obtain ⟨ys, g1, g2, g3⟩ := ih _ _ (fun c hcc => hl c (by rw [hc]; exact List.mem_append_right _ hcc)) h
      refine ⟨(sI (0, l)).2 :: ys, by rw [g1]; simp, by simp [g2], ?_⟩
      rw [List.flatMap_cons, List.append_assoc, ← g3]; exact hc
    · rw [sLoop_err h1] at h; exact absurd h h1
theorem sL_canon {most : Int} {l : List Nat} (hl : ∀ c ∈ l, c < 256) (h : (sL most (0, l)).1.1 = 0) : l = encL (sL most (0, l)).2 ++ (sL most (0, l)).1.2 := by
  unfold sL at h ⊢
  by_cases h1 : (sLs most (0, l)).1.1 = 0
  · rw [if_pos h1]
    unfold sLs at h1 ⊢
    by_cases h2 : (sSize most (0, l)).1.1 = 0
    · have hc := sSize_canon hl h2
      have e : (sSize most (0, l)).1 = (0, (sSize most (0, l)).1.2) := Prod.ext h2 rfl
      rw [e] at h1 ⊢
      obtain ⟨ys, g1, g2, g3⟩ := sLoop_canon _ _ _ (fun c hcc => hl c (by rw [hc]; exact List.mem_append_right _ hcc)) h1
      simp only [encL]
      rw [g1, List.nil_append, g2, List.append_assoc, ← g3]; exact hc
    · rw [sLoop_err h2] at h1; exact absurd h1 h2
  · rw [if_neg h1] at h; exact absurd h h1
theorem rdIt_canon {kind most : Int} {l : List Nat} (hl : ∀ c ∈ l, c < 256) (h : (rdIt kind most (0, l)).1.1 = 0) : l = encIt (rdIt kind most (0, l)).2 ++ (rdIt kind most (0, l)).1.2 := by
  unfold rdIt encIt at *
  by_cases k0 : kind = 0
  · simp only [k0, if_true] at h ⊢; exact sU_canon hl h
  · by_cases k1 : kind = 1
    · simp [k1] at h ⊢; exact sI_canon hl h
    · by_cases k2 : kind = 2
      · simp [k2] at h ⊢; exact sB_canon hl h
      · simp only [k0, k1, k2, if_false] at h ⊢; exact sL_canon hl h
theorem sLoop_ok (n : Nat) : ∀ (s : St) (acc : List Int), (∀ a ∈ acc, -9223372036854775808 ≤ a ∧ a ≤ 9223372036854775807) → ∀ a ∈ (sLoop n s acc).2, -9223372036854775808 ≤ a ∧ a ≤ 9223372036854775807 := by
  induction n with
  | zero => intro s acc h; simpa [sLoop] using h
  | succ n ih =>
    intro s acc h
    by_cases h0 : s.1 = 0
    · rw [sLoop_one h0]
      refine ih _ _ (fun a ha => ?_)
      rcases List.mem_append.1 ha with ha | ha
      · exact h a ha
      · simp at ha; subst ha; exact sI_range s
    · rw [sLoop_err h0]; exact h
theorem sL_ok (most : Int) (s : St) : ∀ a ∈ (sL most s).2, -9223372036854775808 ≤ a ∧ a ≤ 9223372036854775807 := by
  unfold sL
  split
  · unfold sLs; exact sLoop_ok _ _ _ (by simp)
  · simp
theorem sB_ok {most : Int} {l : List Nat} (hl : ∀ c ∈ l, c < 256) : ∀ c ∈ (sB most (0, l)).2, c < 256 := by
  unfold sB
  by_cases h1 : (sSize most (0, l)).1.1 = 0
  · rw [if_pos h1]
    have hc := sSize_canon hl h1
    split
    · simp
    · intro c hcc
      exact hl c (by rw [hc]; exact List.mem_append_right _ (List.mem_of_mem_take hcc))
  · rw [if_neg h1]; simp
theorem enc_list_len (l : List Int) : l.length ≤ (encL l).length := by
  have h : l.length ≤ (l.flatMap encI).length := by
    induction l with
    | nil => simp
    | cons a l ih =>
      have := enc_pos (zig a)
      simp only [List.flatMap_cons, List.length_append, List.length_cons, encI] at *
      omega
  unfold encL
  rw [List.length_append]; omega
/-- what is said of what was read so far -/
def canIt (r : It) : Prop := r.ok ∧ r.wt ≤ 20 + 10 * (encIt r).length
def canSt (bs : List Nat) (rds : List It) (s : St) : Prop := (s.1 = 0 → (∀ c ∈ s.2, c < 256) ∧ bs = encAll rds ++ s.2) ∧ ∀ r ∈ rds, canIt r
theorem canIt_zero {kind : Int} (hk : -9223372036854775808 ≤ kind ∧ kind ≤ 9223372036854775807) : canIt ⟨kind, 0, 0, [], [], 0⟩ :=
  ⟨⟨hk, by simp, by simp, by simp, by simp, by simp⟩, by simp [It.wt]⟩
theorem canIt_rd {kind most : Int} {s : St} (hk : -9223372036854775808 ≤ kind ∧ kind ≤ 9223372036854775807) (hs : s.1 = 0 → ∀ c ∈ s.2, c < 256) : canIt (rdIt kind most s).2 := by
  by_cases h0 : s.1 = 0
  · obtain ⟨e, l⟩ := s
    simp only at h0 hs
    subst h0
    have hl := hs rfl
    unfold rdIt
    by_cases k0 : kind = 0
    · rw [if_pos k0]; exact ⟨⟨hk, sU_lt _, by simp, by simp, by simp, by simp⟩, by simp [It.wt]⟩
    · rw [if_neg k0]
      by_cases k1 : kind = 1
      · rw [if_pos k1]; exact ⟨⟨hk, by simp, sI_range _, by simp, by simp, by simp⟩, by simp [It.wt]⟩
      · rw [if_neg k1]
        by_cases k2 : kind = 2
        · rw [if_pos k2]
          refine ⟨⟨hk, by simp, by simp, sB_ok hl, by simp, by simp⟩, ?_⟩
          simp only [It.wt, encIt, if_neg k0, if_neg k1, if_pos k2, encB, List.length_append, List.length_nil]
          omega
        · rw [if_neg k2]
          refine ⟨⟨hk, by simp, by simp, by simp, sL_ok _ _, by simp⟩, ?_⟩
          have := enc_list_len (sL most (0, l)).2
          simp only [It.wt, encIt, if_neg k0, if_neg k1, if_neg k2, List.length_nil]
          omega
  · rw [rdIt_err h0]; exact canIt_zero hk
theorem canSt_succ {bs : List Nat} {rds : List It} {s : St} (h : canSt bs rds s) {kind most : Int} (hk : -9223372036854775808 ≤ kind ∧ kind ≤ 9223372036854775807) : canSt bs (rds ++ [(rdIt kind most s).2]) (rdIt kind most s).1 := by
  refine ⟨fun h1 => ?_, fun r hr => ?_⟩
  · by_cases h0 : s.1 = 0
    · obtain ⟨hb, he⟩ := h.1 h0
      obtain ⟨e, l⟩ := s
      simp only at h0 hb he
      subst h0
      have hc := rdIt_canon hb h1
      refine ⟨fun c hcc => hb c (by rw [hc]; exact List.mem_append_right _ hcc), ?_⟩
      rw [encAll_app, List.append_assoc, show encAll [(rdIt kind most (0, l)).2] = encIt (rdIt kind most (0, l)).2 by simp [encAll], ← hc]; exact he
    · rw [rdIt_err h0] at h1; exact absurd h1 h0
  · rcases List.mem_append.1 hr with hr | hr
    · exact h.2 r hr
    · simp at hr; subst hr; exact canIt_rd hk (fun h0 => (h.1 h0).1)
theorem canSt_zero {bs : List Nat} (h : ∀ c ∈ bs, c < 256) : canSt bs [] (0, bs) := ⟨fun _ => ⟨h, by simp [encAll]⟩, by simp⟩
theorem can_wts {rds : List It} (h : ∀ r ∈ rds, canIt r) : wts rds ≤ 20 * rds.length + 10 * (encAll rds).length := by
  induction rds with
  | nil => simp [wts]
  | cons r l ih =>
    have h1 := (h r (by simp)).2
    have h2 := ih (fun x hx => h x (List.mem_cons_of_mem _ hx))
    rw [wts_cons, show encAll (r :: l) = encIt r ++ encAll l from List.flatMap_cons, List.length_append, List.length_cons]
    omega
theorem canSt_end {bs : List Nat} {rds : List It} {s : St} (h : canSt bs rds s) (he : sEnd s = 0) : bs = encAll rds ∧ wts rds ≤ 20 * rds.length + 10 * bs.length := by
  unfold sEnd at he
  split at he
  · omega
  · rename_i h1
    have h2 : s.2 = [] := by
      rcases List.eq_nil_or_concat s.2 with h3 | ⟨_, _, h3⟩
      · exact h3
      · exact absurd ⟨he, by rw [h3]; simp⟩ h1
    obtain ⟨_, g⟩ := h.1 he
    rw [h2, List.append_nil] at g
    exact ⟨g, by rw [g]; exact can_wts h.2⟩
theorem its_push {K K' : Nat → Prop} {w w' : World} {xs news : List Value} {rds : List It} {r : It} (hlen : xs.length = rds.length * 6) (h : ∀ i (hi : i < rds.length), ItCells K w (fun j => xs.getD (i * 6 + j) undef) rds[i])
    (hstep : ∀ v ys, Sl K w v ys → Sl K' w' v ys) (hn : ItCells K' w' (fun j => news.getD j undef) r) : ∀ i (hi : i < (rds ++ [r]).length), ItCells K' w' (fun j => (xs ++ news).getD (i * 6 + j) undef) (rds ++ [r])[i] := by
  intro i hi
  rw [List.length_append, List.length_singleton] at hi
  by_cases hi2 : i < rds.length
  · obtain ⟨c0, c1, c2, c3, c4, c5⟩ := h i hi2
    have key : ∀ j, j < 6 → (xs ++ news).getD (i * 6 + j) undef = xs.getD (i * 6 + j) undef := fun j hj => by
      rw [List.getD, List.getD, List.getElem?_append_left (by omega)]
    rw [List.getElem_append_left hi2]
    have s3 := hstep (xs.getD (i * 6 + 3) undef) _ c3
    have s4 := hstep (xs.getD (i * 6 + 4) undef) _ c4
    rw [← key 3 (by omega)] at s3
    rw [← key 4 (by omega)] at s4
    exact ⟨(key 0 (by omega)).trans c0, (key 1 (by omega)).trans c1, (key 2 (by omega)).trans c2, s3, s4, (key 5 (by omega)).trans c5⟩
  · have hie : i = rds.length := by omega
    subst hie
    have key : ∀ j, (xs ++ news).getD (rds.length * 6 + j) undef = news.getD j undef := fun j => by
      rw [List.getD, List.getD, List.getElem?_append_right (by omega)]; congr 2; omega
    rw [List.getElem_append_right (Nat.le_refl _)]
    simp only [Nat.sub_self, List.getElem_cons_zero]
    obtain ⟨c0, c1, c2, c3, c4, c5⟩ := hn
    have s3 : Sl K' w' (news.getD 3 undef) (u8s r.b) := c3
    have s4 : Sl K' w' (news.getD 4 undef) (i64s r.l) := c4
    rw [← key 3] at s3
    rw [← key 4] at s4
    exact ⟨(key 0).trans c0, (key 1).trans c1, (key 2).trans c2, s3, s4, (key 5).trans c5⟩
end Go.Proofs.Ytlebocjcelbbpaa
