/- File: the plain laws of putting a file together. -/
import Derived.Test.YtgeicbjlichdgaaDoorFileM
namespace Go.Proofs.YtgeicbjlichdgaaDoor
open Go.RowKit
/-- a segment of the file x -/
structure OfF (id : Int) (x : List Nat) (sg : Seg) : Prop where
  f : sg.f = id
  o : 0 ≤ sg.o
  t : sg.t = x.length
  s : sg.s = Cr.crc x
  e : sg.o + sg.d.length ≤ x.length
  n : sg.d.length ≤ 256
  d : sg.d = (x.drop sg.o.toNat).take sg.d.length
/-- the segment has the offset i -/
def inS (sg : Seg) (i : Nat) : Bool := decide (sg.o ≤ i) && decide ((i : Int) < sg.o + sg.d.length)
theorem pieceL_of {id : Int} {b : List Nat} {u z : Int} (hu : u ≤ b.length) (hz : 1 ≤ z ∧ z ≤ 256) : ∀ {n : Nat} {a : Int}, 0 ≤ a → ∀ x ∈ pieceL id b u z n a, OfF id b x ∧ a ≤ x.o ∧ x.o + x.d.length ≤ u ∧ 0 < x.d.length
  | 0, a, ha, x, hx => by cases hx
  | n + 1, a, ha, x, hx => by
    unfold pieceL at hx
    split at hx
    · rename_i hau
      rcases List.mem_cons.1 hx with rfl | hx
      · have hl : ((b.take (min (a + z) u).toNat).drop a.toNat).length = (min (a + z) u).toNat - a.toNat := by
          rw [List.length_drop, List.length_take]; omega
        refine ⟨⟨rfl, ha, rfl, rfl, ?_, ?_, ?_⟩, ?_, ?_, ?_⟩
        · show a + ((b.take (min (a + z) u).toNat).drop a.toNat).length ≤ b.length
          rw [hl]; omega
        · show ((b.take (min (a + z) u).toNat).drop a.toNat).length ≤ 256
          rw [hl]; omega
        · show (b.take (min (a + z) u).toNat).drop a.toNat = (b.drop a.toNat).take ((b.take (min (a + z) u).toNat).drop a.toNat).length
          rw [hl, List.drop_take]
        · exact Int.le_refl _
        · show a + ((b.take (min (a + z) u).toNat).drop a.toNat).length ≤ u
          rw [hl]; omega
        · show 0 < ((b.take (min (a + z) u).toNat).drop a.toNat).length
          rw [hl]; omega
      · obtain ⟨h1, h2, h3⟩ := pieceL_of hu hz (by omega) x hx
        exact ⟨h1, by omega, h3⟩
    · cases hx
theorem rangeS_of {id : Int} {b : List Nat} {lo u z : Int} (hu : u ≤ b.length) (hz : 1 ≤ z ∧ z ≤ 256) (ha : 0 ≤ lo) : ∀ x ∈ rangeS id b lo u z, OfF id b x ∧ lo ≤ x.o ∧ x.o + x.d.length ≤ u ∧ 0 < x.d.length := pieceL_of hu hz ha
theorem rangeS_cov {id : Int} {b : List Nat} {u z : Int} (hu : u ≤ b.length) (hz : 1 ≤ z) (i : Nat) (hi : (i : Int) < u) : ∀ (n : Nat) (a : Int), u - a ≤ n → 0 ≤ a → a ≤ i → ∃ x ∈ rangeS id b a u z, inS x i = true
  | 0, a, hn, h0, ha => by omega
  | n + 1, a, hn, h0, ha => by
    rw [rangeS_step hz (by omega)]
    by_cases h : (i : Int) < a + z
    · refine ⟨_, List.mem_cons_self, ?_⟩
      have hl : ((b.take (min (a + z) u).toNat).drop a.toNat).length = (min (a + z) u).toNat - a.toNat := by
        rw [List.length_drop, List.length_take]; omega
      show (decide (a ≤ i) && decide ((i : Int) < a + ((b.take (min (a + z) u).toNat).drop a.toNat).length)) = true
      rw [hl, Bool.and_eq_true, decide_eq_true_iff, decide_eq_true_iff]
      omega
    · obtain ⟨x, hx, h2⟩ := rangeS_cov hu hz i hi n (a + z) (by omega) (by omega) (by omega)
      exact ⟨x, List.mem_cons_of_mem _ hx, h2⟩
theorem empty_of (id : Int) : OfF id [] ⟨id, 0, 0, 0, []⟩ := ⟨rfl, Int.le_refl _, rfl, by kernel_rfl, by simp, by simp, by simp⟩
/-- what an answer holds -/
theorem answer_of {id : Int} {b : List Nat} {gs : List (Int × Int)} {z : Int} : ∀ x ∈ answerL id b gs z, OfF id b x ∧ (0 < x.d.length → ∀ i, inS x i = true → ∃ g ∈ gs, g.1 ≤ i ∧ (i : Int) < g.2) := by
  intro x hx
  unfold answerL at hx
  split at hx
  · cases hx
  · rename_i h
    split at hx
    · rename_i hb; subst hb; simp at hx; subst hx; exact ⟨empty_of id, fun h => by simp at h⟩
    · obtain ⟨g, hg, hx⟩ := List.mem_flatMap.1 hx
      have hz : 1 ≤ z ∧ z ≤ 256 := by
        have hf : fitsL b z = 0 := by
          rcases Decidable.em (fitsL b z = 0) with h1 | h1
          · exact h1
          · exact absurd (.inl h1) h
        unfold fitsL at hf
        split at hf
        · omega
        · omega
      obtain ⟨h1, h2, h3, h4⟩ := rangeS_of (id := id) (b := b) (lo := max g.1 0) (u := min g.2 b.length) (by omega) hz (by omega) x hx
      refine ⟨h1, fun _ i hi => ⟨g, hg, ?_⟩⟩
      unfold inS at hi
      rw [Bool.and_eq_true, decide_eq_true_iff, decide_eq_true_iff] at hi
      omega
theorem fits_ok {b : List Nat} {z : Int} (hz : 1 ≤ z ∧ z ≤ 256) (hb : b.length ≤ 65536) : fitsL b z = 0 := by unfold fitsL; rw [if_neg (by omega), if_neg (by omega)]
theorem answer_cov {id : Int} {b : List Nat} {gs : List (Int × Int)} {z : Int} (hz : 1 ≤ z ∧ z ≤ 256) (hb : b.length ≤ 65536) {i : Nat} (hi : i < b.length) {g : Int × Int} (hg : g ∈ gs) (h1 : g.1 ≤ i) (h2 : (i : Int) < g.2) : ∃ x ∈ answerL id b gs z, inS x i = true := by
  unfold answerL
  have hf := fits_ok hz hb
  have hb0 : b ≠ [] := fun h => by rw [h] at hi; simp at hi
  rw [hf, if_neg (fun h => by rcases h with h | h; exact h rfl; rw [h] at hg; cases hg), if_neg hb0]
  obtain ⟨x, hx, h⟩ := rangeS_cov (id := id) (b := b) (u := min g.2 b.length) (z := z) (by omega) hz.1 i (by omega) b.length (max g.1 0) (by omega) (by omega) (by omega)
  exact ⟨x, List.mem_flatMap.2 ⟨g, hg, hx⟩, h⟩
theorem answer_some {id : Int} {b : List Nat} {gs : List (Int × Int)} {z : Int} (hz : 1 ≤ z ∧ z ≤ 256) (hb : b = []) (hg : gs ≠ []) : answerL id b gs z = [⟨id, 0, 0, 0, []⟩] := by
  unfold answerL
  rw [fits_ok hz (by rw [hb]; simp), if_neg (fun h => by rcases h with h | h; exact h rfl; exact hg h), if_pos hb]
theorem cut_of {id : Int} {b : List Nat} {z : Int} : ∀ x ∈ cutL id b z, OfF id b x := by
  intro x hx
  unfold cutL at hx
  split at hx
  · cases hx
  · exact (answer_of x hx).1
theorem cut_cov {id : Int} {b : List Nat} {z : Int} (hz : 1 ≤ z ∧ z ≤ 256) (hb : b.length ≤ 65536) {i : Nat} (hi : i < b.length) : ∃ x ∈ cutL id b z, inS x i = true := by
  unfold cutL
  rw [fits_ok hz hb]
  exact answer_cov hz hb hi (g := (0, b.length)) (by simp) (by show (0 : Int) ≤ i; omega) (by show (i : Int) < b.length; omega)
theorem cut_ne {id : Int} {b : List Nat} {z : Int} (hz : 1 ≤ z ∧ z ≤ 256) (hb : b.length ≤ 65536) : cutL id b z ≠ [] := by
  rcases Nat.eq_zero_or_pos b.length with h | h
  · have h0 := List.eq_nil_of_length_eq_zero h
    unfold cutL
    rw [fits_ok hz hb]
    show answerL id b _ z ≠ []
    rw [answer_some hz h0 (by simp)]
    simp
  · obtain ⟨x, hx, _⟩ := cut_cov (id := id) hz hb h
    exact List.ne_nil_of_mem hx
/-- a part that holds some of the file x -/
structure Fit (id : Int) (x : List Nat) (M : Pm) : Prop where
  id : M.id = id
  ok : M.ok
  un : M.kn = false → M.hv = []
  sm : M.kn = true → M.sm = Cr.crc x ∧ M.dt.length = x.length
  eq : ∀ i, M.hv.getD i false = true → M.dt.getD i 0 = x.getD i 0
theorem newM_fit (id : Int) (x : List Nat) : Fit id x (newM id) := ⟨rfl, newM_ok id, fun _ => rfl, fun h => (by cases h), fun i h => by simp [newM] at h⟩
theorem getD_ovr {α : Type} (dv : α) {l d : List α} {o : Nat} (h : o + d.length ≤ l.length) (i : Nat) : (ovr l o d).getD i dv = if o ≤ i ∧ i < o + d.length then d.getD (i - o) dv else l.getD i dv := by
  unfold List.getD
  rw [ovr_get h i]
  by_cases h1 : i < o
  · rw [if_pos h1, if_neg (by omega)]
  · rw [if_neg h1]
    by_cases h2 : i < o + d.length
    · rw [if_pos h2, if_pos (by omega)]
    · rw [if_neg h2, if_neg (by omega)]
theorem of_get {id : Int} {x : List Nat} {s : Seg} (h : OfF id x s) (k : Nat) (hk : k < s.d.length) : s.d.getD k 0 = x.getD (s.o.toNat + k) 0 := by
  have e := h.d
  unfold List.getD
  rw [e, List.getElem?_take, if_pos hk, List.getElem?_drop]
theorem put_of {id : Int} {x : List Nat} {s : Seg} {M : Pm} (hx : x.length ≤ 65536) (hb : ∀ c ∈ x, c < 256) (h : Fit id x M) (hs : OfF id x s) :
    putE M s = 0 ∧ Fit id x (putM M s) ∧ (putM M s).kn = true ∧ (∀ i, (putM M s).hv.getD i false = (M.hv.getD i false || inS s i)) := by
  have ho := hs.o; have he := hs.e
  have hV : Valid s := ⟨by rw [hs.t]; omega, by rw [hs.t]; omega, hs.n, ho, by rw [hs.t]; omega⟩
  have hs32 : s.s < 4294967296 := by rw [hs.s]; exact Cr.crc_lt hb
  have hno : ¬ (M.kn = true ∧ (s.t ≠ M.dt.length ∨ s.s ≠ M.sm)) := fun ⟨h1, h2⟩ => by
    obtain ⟨h3, h4⟩ := h.sm h1
    rcases h2 with h2 | h2
    · exact h2 (by rw [hs.t, h4])
    · exact h2 (by rw [hs.s, h3])
  have hI := initM_ok h.ok hV hs32
  have hIl := initM_len hV hno
  have hIkn : (initM M s).kn = true := by unfold initM; split; assumption; rfl
  have hIid : (initM M s).id = id := by unfold initM; split; exact h.id; exact h.id
  have hIsm : (initM M s).sm = Cr.crc x := by
    unfold initM; split
    · rename_i h1; exact (h.sm h1).1
    · exact hs.s
  have hIhv : ∀ i, (initM M s).hv.getD i false = M.hv.getD i false := by
    intro i
    unfold initM; split
    · rfl
    · rename_i h1
      rw [h.un (by simpa using h1)]
      show (List.replicate s.t.toNat false).getD i false = _
      simp only [List.getD, List.getElem?_replicate]
      split <;> rfl
  have hIeq : ∀ i, (initM M s).hv.getD i false = true → (initM M s).dt.getD i 0 = x.getD i 0 := by
    intro i hi
    rw [hIhv] at hi
    have h2 := h.eq i hi
    have hk : M.kn = true := by
      rcases hk : M.kn with _ | _
      · rw [h.un hk] at hi; simp at hi
      · rfl
    unfold initM; rw [if_pos hk]; exact h2
  have hIl2 : (initM M s).dt.length = x.length := by rw [hs.t] at hIl; omega
  have hIl3 : (initM M s).hv.length = x.length := by rw [hI.len, hIl2]
  have hC : anyC (initM M s) s = false := by
    unfold anyC
    rw [List.any_eq_false]
    intro k hk
    rw [List.mem_range] at hk
    unfold confl
    rw [of_get hs k hk]
    rcases hc : (initM M s).hv.getD (s.o.toNat + k) false with _ | _
    · simp
    · rw [hIeq _ hc]; simp
  have hE : putE M s = 0 := by
    unfold putE
    rw [if_neg (fun h' => h' (by rw [hs.f, h.id])), if_neg (fun h' => h' hV), if_neg hno, hC]; rfl
  have hP : putM M s = overM (initM M s) s := by unfold putM; rw [if_pos hE]
  have b1 : s.o.toNat + (List.replicate s.d.length true).length ≤ (initM M s).hv.length := by rw [List.length_replicate, hIl3]; omega
  have b2 : s.o.toNat + s.d.length ≤ (initM M s).dt.length := by rw [hIl2]; omega
  have hH : ∀ i, (overM (initM M s) s).hv.getD i false = (M.hv.getD i false || inS s i) := by
    intro i
    show (ovr (initM M s).hv s.o.toNat (List.replicate s.d.length true)).getD i false = _
    rw [getD_ovr false b1 i, List.length_replicate, hIhv]
    unfold inS
    split
    · rename_i h1
      rw [decide_eq_true (by omega : s.o ≤ i), decide_eq_true (by omega : (i : Int) < s.o + s.d.length)]
      simp only [List.getD, List.getElem?_replicate]
      rw [if_pos (by omega)]
      cases M.hv[i]?.getD false <;> rfl
    · rename_i h1
      rcases (show ¬ (s.o ≤ i) ∨ ¬ ((i : Int) < s.o + s.d.length) by omega) with h2 | h2
      · rw [decide_eq_false h2]; simp
      · rw [decide_eq_false h2]; simp
  refine ⟨hE, ?_, by rw [hP]; exact hIkn, by rw [hP]; exact hH⟩
  rw [hP]
  refine ⟨hIid, ⟨?_, ?_, ?_, ?_, ?_⟩, ?_, ?_, ?_⟩
  · show (ovr _ _ _).length = (ovr _ _ _).length
    rw [ovr_length b1, ovr_length b2, hI.len]
  · show (ovr _ _ _).length ≤ _
    rw [ovr_length b2]; exact hI.max
  · intro c hc
    have hc : c ∈ ovr (initM M s).dt s.o.toNat s.d := hc
    unfold ovr at hc
    rcases List.mem_append.1 hc with hc | hc
    · rcases List.mem_append.1 hc with hc | hc
      · exact hI.b c (List.mem_of_mem_take hc)
      · rw [hs.d] at hc; exact hb c (List.mem_of_mem_drop (List.mem_of_mem_take hc))
    · exact hI.b c (List.mem_of_mem_drop hc)
  · exact hI.s
  · intro h'; rw [show (overM (initM M s) s).kn = (initM M s).kn from rfl, hIkn] at h'; cases h'
  · intro h'; rw [show (overM (initM M s) s).kn = (initM M s).kn from rfl, hIkn] at h'; cases h'
  · intro _
    refine ⟨hIsm, ?_⟩
    show (ovr _ _ _).length = _
    rw [ovr_length b2, hIl2]
  · intro i hi
    rw [hH] at hi
    show (ovr (initM M s).dt s.o.toNat s.d).getD i 0 = _
    rw [getD_ovr 0 b2 i]
    split
    · rename_i h1
      rw [of_get hs _ (by omega)]
      congr 1; omega
    · rename_i h1
      refine hIeq i ?_
      rw [hIhv]
      unfold inS at hi
      rcases (show ¬ (s.o ≤ i) ∨ ¬ ((i : Int) < s.o + s.d.length) by omega) with h2 | h2
      · rw [decide_eq_false h2] at hi; simpa using hi
      · rw [decide_eq_false h2] at hi; simpa using hi
/-- many segments of one file -/
theorem puts_of {id : Int} {x : List Nat} (hx : x.length ≤ 65536) (hb : ∀ c ∈ x, c < 256) : ∀ (l : List Seg) (M : Pm), Fit id x M → (∀ s ∈ l, OfF id x s) → Fit id x (l.foldl putM M) ∧ (l ≠ [] → (l.foldl putM M).kn = true) ∧ (∀ i, (l.foldl putM M).hv.getD i false = (M.hv.getD i false || l.any (fun s => inS s i)))
  | [], M, h, hl => ⟨h, fun h => absurd rfl h, fun i => by simp⟩
  | s :: l, M, h, hl => by
    obtain ⟨_, h1, h2, h3⟩ := put_of hx hb h (hl s List.mem_cons_self)
    obtain ⟨g1, g2, g3⟩ := puts_of hx hb l (putM M s) h1 (fun s' hs' => hl s' (List.mem_cons_of_mem _ hs'))
    refine ⟨g1, fun _ => ?_, fun i => ?_⟩
    · rcases l with _ | ⟨s', l'⟩
      · exact h2
      · exact g2 (by simp)
    · show ((l.foldl putM (putM M s)).hv.getD i false) = _
      rw [g3 i, h3 i, List.any_cons, Bool.or_assoc]
end Go.Proofs.YtgeicbjlichdgaaDoor
