/- Custody: FileM, FileN, FileO, FileP: walks and plain facts. -/
import Derived.Test.YtgfekgceeigdiaaDoorFileTwo
namespace Go.Proofs.YtgfekgceeigdiaaDoor
open Go.RowKit
attribute [local go_sem ↓] Go.wp_at_zero Go.wp_at_succ
end Go.Proofs.YtgfekgceeigdiaaDoor
namespace Go.Proofs.YtgfekgceeigdiaaDoor
open Go.RowKit
/-- a segment of the file x -/
structure OfF (id : Int) (x : List Nat) (sg : Seg) : Prop where
  f : sg.f = id
  o : 0 ≤ sg.o
  t : sg.t = x.length
  s : sg.s = Cr.crc x
  e : sg.o + sg.d.length ≤ x.length
  n : sg.d.length ≤ 256
  d : sg.d = (x.drop sg.o.toNat).take sg.d.length
/-- the segment has the offset i -/
def inS (sg : Seg) (i : Nat) : Bool := decide (sg.o ≤ i) && decide ((i : Int) < sg.o + sg.d.length)
theorem pieceL_of {id : Int} {b : List Nat} {u z : Int} (hu : u ≤ b.length) (hz : 1 ≤ z ∧ z ≤ 256) : ∀ {n : Nat} {a : Int}, 0 ≤ a → ∀ x ∈ pieceL id b u z n a, OfF id b x ∧ a ≤ x.o ∧ x.o + x.d.length ≤ u ∧ 0 < x.d.length
  | 0, a, ha, x, hx => by cases hx
  | n + 1, a, ha, x, hx => by
    unfold pieceL at hx
    split at hx
    · rename_i hau
      rcases List.mem_cons.1 hx with rfl | hx
      · have hl : ((b.take (min (a + z) u).toNat).drop a.toNat).length = (min (a + z) u).toNat - a.toNat := by
          rw [List.length_drop, List.length_take]; omega
        refine ⟨⟨rfl, ha, rfl, rfl, ?_, ?_, ?_⟩, ?_, ?_, ?_⟩
        · show a + ((b.take (min (a + z) u).toNat).drop a.toNat).length ≤ b.length
          rw [hl]; omega
        · show ((b.take (min (a + z) u).toNat).drop a.toNat).length ≤ 256
          rw [hl]; omega
        · show (b.take (min (a + z) u).toNat).drop a.toNat = (b.drop a.toNat).take ((b.take (min (a + z) u).toNat).drop a.toNat).length
          rw [hl, List.drop_take]
        · exact Int.le_refl _
        · show a + ((b.take (min (a + z) u).toNat).drop a.toNat).length ≤ u
          rw [hl]; omega
        · show 0 < ((b.take (min (a + z) u).toNat).drop a.toNat).length
          rw [hl]; omega
      · obtain ⟨h1, h2, h3⟩ := pieceL_of hu hz (by omega) x hx
        exact ⟨h1, by omega, h3⟩
    · cases hx
theorem rangeS_of {id : Int} {b : List Nat} {lo u z : Int} (hu : u ≤ b.length) (hz : 1 ≤ z ∧ z ≤ 256) (ha : 0 ≤ lo) : ∀ x ∈ rangeS id b lo u z, OfF id b x ∧ lo ≤ x.o ∧ x.o + x.d.length ≤ u ∧ 0 < x.d.length := pieceL_of hu hz ha
theorem rangeS_cov {id : Int} {b : List Nat} {u z : Int} (hu : u ≤ b.length) (hz : 1 ≤ z) (i : Nat) (hi : (i : Int) < u) : ∀ (n : Nat) (a : Int), u - a ≤ n → 0 ≤ a → a ≤ i → ∃ x ∈ rangeS id b a u z, inS x i = true
  | 0, a, hn, h0, ha => by omega
  | n + 1, a, hn, h0, ha => by
    rw [rangeS_step hz (by omega)]
    by_cases h : (i : Int) < a + z
    · refine ⟨_, List.mem_cons_self, ?_⟩
      have hl : ((b.take (min (a + z) u).toNat).drop a.toNat).length = (min (a + z) u).toNat - a.toNat := by
        rw [List.length_drop, List.length_take]; omega
      show (decide (a ≤ i) && decide ((i : Int) < a + ((b.take (min (a + z) u).toNat).drop a.toNat).length)) = true
      rw [hl, Bool.and_eq_true, decide_eq_true_iff, decide_eq_true_iff]
      omega
    · obtain ⟨x, hx, h2⟩ := rangeS_cov hu hz i hi n (a + z) (by omega) (by omega) (by omega)
      exact ⟨x, List.mem_cons_of_mem _ hx, h2⟩
theorem empty_of (id : Int) : OfF id [] ⟨id, 0, 0, 0, []⟩ := ⟨rfl, Int.le_refl _, rfl, by kernel_rfl, by simp, by simp, by simp⟩
/-- what an answer holds -/
theorem answer_of {id : Int} {b : List Nat} {gs : List (Int × Int)} {z : Int} : ∀ x ∈ answerL id b gs z, OfF id b x ∧ (0 < x.d.length → ∀ i, inS x i = true → ∃ g ∈ gs, g.1 ≤ i ∧ (i : Int) < g.2) := by
  intro x hx
  unfold answerL at hx
  split at hx
  · cases hx
  · rename_i h
    split at hx
    · rename_i hb; subst hb; simp at hx; subst hx; exact ⟨empty_of id, fun h => by simp at h⟩
    · obtain ⟨g, hg, hx⟩ := List.mem_flatMap.1 hx
      have hz : 1 ≤ z ∧ z ≤ 256 := by
        have hf : fitsL b z = 0 := by
          rcases Decidable.em (fitsL b z = 0) with h1 | h1
          · exact h1
          · exact absurd (.inl h1) h
        unfold fitsL at hf
        split at hf
        · omega
        · omega
      obtain ⟨h1, h2, h3, h4⟩ := rangeS_of (id := id) (b := b) (lo := max g.1 0) (u := min g.2 b.length) (by omega) hz (by omega) x hx
      refine ⟨h1, fun _ i hi => ⟨g, hg, ?_⟩⟩
      unfold inS at hi
      rw [Bool.and_eq_true, decide_eq_true_iff, decide_eq_true_iff] at hi
      omega
theorem fits_ok {b : List Nat} {z : Int} (hz : 1 ≤ z ∧ z ≤ 256) (hb : b.length ≤ 65536) : fitsL b z = 0 := by unfold fitsL; rw [if_neg (by omega), if_neg (by omega)]
theorem answer_cov {id : Int} {b : List Nat} {gs : List (Int × Int)} {z : Int} (hz : 1 ≤ z ∧ z ≤ 256) (hb : b.length ≤ 65536) {i : Nat} (hi : i < b.length) {g : Int × Int} (hg : g ∈ gs) (h1 : g.1 ≤ i) (h2 : (i : Int) < g.2) : ∃ x ∈ answerL id b gs z, inS x i = true := by
  unfold answerL
  have hf := fits_ok hz hb
  have hb0 : b ≠ [] := fun h => by rw [h] at hi; simp at hi
  rw [hf, if_neg (fun h => by rcases h with h | h; exact h rfl; rw [h] at hg; cases hg), if_neg hb0]
  obtain ⟨x, hx, h⟩ := rangeS_cov (id := id) (b := b) (u := min g.2 b.length) (z := z) (by omega) hz.1 i (by omega) b.length (max g.1 0) (by omega) (by omega) (by omega)
  exact ⟨x, List.mem_flatMap.2 ⟨g, hg, hx⟩, h⟩
theorem cut_of {id : Int} {b : List Nat} {z : Int} : ∀ x ∈ cutL id b z, OfF id b x := by
  intro x hx
  unfold cutL at hx
  split at hx
  · cases hx
  · exact (answer_of x hx).1
theorem cut_cov {id : Int} {b : List Nat} {z : Int} (hz : 1 ≤ z ∧ z ≤ 256) (hb : b.length ≤ 65536) {i : Nat} (hi : i < b.length) : ∃ x ∈ cutL id b z, inS x i = true := by
  unfold cutL
  rw [fits_ok hz hb]
  exact answer_cov hz hb hi (g := (0, b.length)) (by simp) (by show (0 : Int) ≤ i; omega) (by show (i : Int) < b.length; omega)
/-- a part that holds some of the file x -/
structure Fit (id : Int) (x : List Nat) (M : Pm) : Prop where
  id : M.id = id
  ok : M.ok
  un : M.kn = false → M.hv = []
  sm : M.kn = true → M.sm = Cr.crc x ∧ M.dt.length = x.length
  eq : ∀ i, M.hv.getD i false = true → M.dt.getD i 0 = x.getD i 0
theorem newM_fit (id : Int) (x : List Nat) : Fit id x (newM id) := ⟨rfl, newM_ok id, fun _ => rfl, fun h => (by cases h), fun i h => by simp [newM] at h⟩
theorem getD_ovr {α : Type} (dv : α) {l d : List α} {o : Nat} (h : o + d.length ≤ l.length) (i : Nat) : (ovr l o d).getD i dv = if o ≤ i ∧ i < o + d.length then d.getD (i - o) dv else l.getD i dv := by
  unfold List.getD
  rw [ovr_get h i]
  by_cases h1 : i < o
  · rw [if_pos h1, if_neg (by omega)]
  · rw [if_neg h1]
    by_cases h2 : i < o + d.length
    · rw [if_pos h2, if_pos (by omega)]
    · rw [if_neg h2, if_neg (by omega)]
theorem of_get {id : Int} {x : List Nat} {s : Seg} (h : OfF id x s) (k : Nat) (hk : k < s.d.length) : s.d.getD k 0 = x.getD (s.o.toNat + k) 0 := by
  have e := h.d
  unfold List.getD
  rw [e, List.getElem?_take, if_pos hk, List.getElem?_drop]
theorem put_of {id : Int} {x : List Nat} {s : Seg} {M : Pm} (hx : x.length ≤ 65536) (hb : ∀ c ∈ x, c < 256) (h : Fit id x M) (hs : OfF id x s) :
    putE M s = 0 ∧ Fit id x (putM M s) ∧ (putM M s).kn = true ∧ (∀ i, (putM M s).hv.getD i false = (M.hv.getD i false || inS s i)) := by
  have ho := hs.o; have he := hs.e
  have hV : Valid s := ⟨by rw [hs.t]; omega, by rw [hs.t]; omega, hs.n, ho, by rw [hs.t]; omega⟩
  have hs32 : s.s < 4294967296 := by rw [hs.s]; exact Cr.crc_lt hb
  have hno : ¬ (M.kn = true ∧ (s.t ≠ M.dt.length ∨ s.s ≠ M.sm)) := fun ⟨h1, h2⟩ => by
    obtain ⟨h3, h4⟩ := h.sm h1
    rcases h2 with h2 | h2
    · exact h2 (by rw [hs.t, h4])
    · exact h2 (by rw [hs.s, h3])
  have hI := initM_ok h.ok hV hs32
  have hIl := initM_len hV hno
  have hIkn : (initM M s).kn = true := by unfold initM; split; assumption; rfl
  have hIid : (initM M s).id = id := by unfold initM; split; exact h.id; exact h.id
  have hIsm : (initM M s).sm = Cr.crc x := by
    unfold initM; split
    · rename_i h1; exact (h.sm h1).1
    · exact hs.s
  have hIhv : ∀ i, (initM M s).hv.getD i false = M.hv.getD i false := by
    intro i
    unfold initM; split
    · rfl
    · rename_i h1
      rw [h.un (by simpa using h1)]
      show (List.replicate s.t.toNat false).getD i false = _
      simp only [List.getD, List.getElem?_replicate]
      split <;> rfl
  have hIeq : ∀ i, (initM M s).hv.getD i false = true → (initM M s).dt.getD i 0 = x.getD i 0 := by
    intro i hi
    rw [hIhv] at hi
    have h2 := h.eq i hi
    have hk : M.kn = true := by
      rcases hk : M.kn with _ | _
      · rw [h.un hk] at hi; simp at hi
      · rfl
    unfold initM; rw [if_pos hk]; exact h2
  have hIl2 : (initM M s).dt.length = x.length := by rw [hs.t] at hIl; omega
  have hIl3 : (initM M s).hv.length = x.length := by rw [hI.len, hIl2]
  have hC : anyC (initM M s) s = false := by
    unfold anyC
    rw [List.any_eq_false]
    intro k hk
    rw [List.mem_range] at hk
    unfold confl
    rw [of_get hs k hk]
    rcases hc : (initM M s).hv.getD (s.o.toNat + k) false with _ | _
    · simp
    · rw [hIeq _ hc]; simp
  have hE : putE M s = 0 := by
    unfold putE
    rw [if_neg (fun h' => h' (by rw [hs.f, h.id])), if_neg (fun h' => h' hV), if_neg hno, hC]; rfl
  have hP : putM M s = overM (initM M s) s := by unfold putM; rw [if_pos hE]
  have b1 : s.o.toNat + (List.replicate s.d.length true).length ≤ (initM M s).hv.length := by rw [List.length_replicate, hIl3]; omega
  have b2 : s.o.toNat + s.d.length ≤ (initM M s).dt.length := by rw [hIl2]; omega
  have hH : ∀ i, (overM (initM M s) s).hv.getD i false = (M.hv.getD i false || inS s i) := by
    intro i
    show (ovr (initM M s).hv s.o.toNat (List.replicate s.d.length true)).getD i false = _
    rw [getD_ovr false b1 i, List.length_replicate, hIhv]
    unfold inS
    split
    · rename_i h1
      rw [decide_eq_true (by omega : s.o ≤ i), decide_eq_true (by omega : (i : Int) < s.o + s.d.length)]
      simp only [List.getD, List.getElem?_replicate]
      rw [if_pos (by omega)]
      cases M.hv[i]?.getD false <;> rfl
    · rename_i h1
      rcases (show ¬ (s.o ≤ i) ∨ ¬ ((i : Int) < s.o + s.d.length) by omega) with h2 | h2
      · rw [decide_eq_false h2]; simp
      · rw [decide_eq_false h2]; simp
  refine ⟨hE, ?_, by rw [hP]; exact hIkn, by rw [hP]; exact hH⟩
  rw [hP]
  refine ⟨hIid, ⟨?_, ?_, ?_, ?_, ?_⟩, ?_, ?_, ?_⟩
  · show (ovr _ _ _).length = (ovr _ _ _).length
    rw [ovr_length b1, ovr_length b2, hI.len]
  · show (ovr _ _ _).length ≤ _
    rw [ovr_length b2]; exact hI.max
  · intro c hc
    have hc : c ∈ ovr (initM M s).dt s.o.toNat s.d := hc
    unfold ovr at hc
    rcases List.mem_append.1 hc with hc | hc
    · rcases List.mem_append.1 hc with hc | hc
      · exact hI.b c (List.mem_of_mem_take hc)
      · rw [hs.d] at hc; exact hb c (List.mem_of_mem_drop (List.mem_of_mem_take hc))
    · exact hI.b c (List.mem_of_mem_drop hc)
  · exact hI.s
  · intro h'; rw [show (overM (initM M s) s).kn = (initM M s).kn from rfl, hIkn] at h'; cases h'
  · intro h'; rw [show (overM (initM M s) s).kn = (initM M s).kn from rfl, hIkn] at h'; cases h'
  · intro _
    refine ⟨hIsm, ?_⟩
    show (ovr _ _ _).length = _
    rw [ovr_length b2, hIl2]
  · intro i hi
    rw [hH] at hi
    show (ovr (initM M s).dt s.o.toNat s.d).getD i 0 = _
    rw [getD_ovr 0 b2 i]
    split
    · rename_i h1
      rw [of_get hs _ (by omega)]
      congr 1; omega
    · rename_i h1
      refine hIeq i ?_
      rw [hIhv]
      unfold inS at hi
      rcases (show ¬ (s.o ≤ i) ∨ ¬ ((i : Int) < s.o + s.d.length) by omega) with h2 | h2
      · rw [decide_eq_false h2] at hi; simpa using hi
      · rw [decide_eq_false h2] at hi; simpa using hi
/-- many segments of one file -/
theorem puts_of {id : Int} {x : List Nat} (hx : x.length ≤ 65536) (hb : ∀ c ∈ x, c < 256) : ∀ (l : List Seg) (M : Pm), Fit id x M → (∀ s ∈ l, OfF id x s) → Fit id x (l.foldl putM M) ∧ (l ≠ [] → (l.foldl putM M).kn = true) ∧ (∀ i, (l.foldl putM M).hv.getD i false = (M.hv.getD i false || l.any (fun s => inS s i)))
  | [], M, h, hl => ⟨h, fun h => absurd rfl h, fun i => by simp⟩
  | s :: l, M, h, hl => by
    obtain ⟨_, h1, h2, h3⟩ := put_of hx hb h (hl s List.mem_cons_self)
    obtain ⟨g1, g2, g3⟩ := puts_of hx hb l (putM M s) h1 (fun s' hs' => hl s' (List.mem_cons_of_mem _ hs'))
    refine ⟨g1, fun _ => ?_, fun i => ?_⟩
    · rcases l with _ | ⟨s', l'⟩
      · exact h2
      · exact g2 (by simp)
    · show ((l.foldl putM (putM M s)).hv.getD i false) = _
      rw [g3 i, h3 i, List.any_cons, Bool.or_assoc]
end Go.Proofs.YtgfekgceeigdiaaDoor
namespace Go.Proofs.YtgfekgceeigdiaaDoor
open Go.RowKit
/-- where the last range ends -/
def lastU (g : List (Int × Int)) : Int := match g.getLast? with | none => -1 | some p => p.2
def Srt (g : List (Int × Int)) : Prop := ∀ i p, g[i]? = some p → lastU (g.take i) < p.1 ∧ p.1 < p.2
theorem lastU_app (g : List (Int × Int)) (p : Int × Int) : lastU (g ++ [p]) = p.2 := by unfold lastU; rw [List.getLast?_append]; rfl
theorem srt_app {g : List (Int × Int)} {p : Int × Int} (h : Srt g) (h1 : lastU g < p.1) (h2 : p.1 < p.2) : Srt (g ++ [p]) := by
  intro i q hq
  rcases Nat.lt_trichotomy i g.length with hi | hi | hi
  · rw [List.getElem?_append_left hi] at hq
    rw [List.take_append_of_le_length (by omega)]
    exact h i q hq
  · subst hi
    rw [List.getElem?_concat_length] at hq
    injection hq with hq; subst hq
    rw [List.take_append_of_le_length (Nat.le_refl _), List.take_length]
    exact ⟨h1, h2⟩
  · rw [List.getElem?_eq_none (by simp; omega)] at hq; cases hq
structure GI (l : List Bool) (k : Nat) (s : Int) (g : List (Int × Int)) : Prop where
  lo : -1 ≤ s
  hi : s < k
  free : ∀ i : Nat, 0 ≤ s → s ≤ i → i < k → l.getD i false = false
  iff : ∀ i : Nat, i < k → (l.getD i false = false ↔ ((∃ p ∈ g, p.1 ≤ (i : Int) ∧ (i : Int) < p.2) ∨ (0 ≤ s ∧ s ≤ i)))
  srt : Srt g
  last : lastU g ≤ (k : Int) - 1
  gap : 0 ≤ s → lastU g < s
  inn : ∀ p ∈ g, 0 ≤ p.1 ∧ p.2 ≤ (k : Int) - 1
  cnt : (g.map (fun p => p.2 - p.1)).sum + (if 0 ≤ s then (k : Int) - s else 0) = (((List.range k).countP (fun i => ! l.getD i false) : Nat) : Int)
theorem gst_gi (l : List Bool) : ∀ k, GI l k (gst l k).1 (gst l k).2
  | 0 => ⟨Int.le_refl _, by show (-1 : Int) < 0; omega, fun i _ _ h => by omega, fun i h => by omega, fun i p h => by simp [gst] at h, by show (-1 : Int) ≤ 0 - 1; omega, fun h => by exact absurd h (by show ¬ (0 : Int) ≤ -1; omega), fun p h => (by cases h), by simp [gst]⟩
  | k + 1 => by
    have ih := gst_gi l k
    rw [gst_s]
    generalize gst l k = st at *
    obtain ⟨s, g⟩ := st
    obtain ⟨h1, h2, h3, h4, h5, h6, h7, h8, h9⟩ := ih
    simp only [] at h1 h2 h3 h4 h5 h6 h7 h8 h9
    have hkk : ((k + 1 : Nat) : Int) = (k : Int) + 1 := by omega
    rcases hb : l.getD k false with _ | _
    · by_cases hs : s < 0
      · have e : gstep (s, g) k false = ((k : Int), g) := by unfold gstep; rw [if_pos ⟨rfl, hs⟩]
        rw [e]
        refine ⟨by show (-1 : Int) ≤ k; omega, by show (k : Int) < _; omega, fun i _ hi hik => ?_, fun i hi => ?_, h5, by show lastU g ≤ _; omega, fun _ => by show lastU g < (k : Int); omega, fun p hp => ⟨(h8 p hp).1, by have := (h8 p hp).2; omega⟩, ?_⟩
        · have hi : (k : Int) ≤ i := hi
          obtain rfl : i = k := by omega
          exact hb
        · show _ ↔ ((∃ p ∈ g, _) ∨ (0 ≤ (k : Int) ∧ (k : Int) ≤ i))
          rcases Nat.lt_or_ge i k with hik | hik
          · rw [h4 i hik]
            exact ⟨fun h => by rcases h with h | h; exact .inl h; omega, fun h => by rcases h with h | h; exact .inl h; omega⟩
          · obtain rfl : i = k := by omega
            exact ⟨fun _ => .inr ⟨by omega, by omega⟩, fun _ => hb⟩
        · show (g.map _).sum + (if 0 ≤ (k : Int) then ((k + 1 : Nat) : Int) - k else 0) = _
          rw [List.range_succ, List.countP_append, if_pos (by omega)]
          rw [if_neg (by omega)] at h9
          simp only [List.countP_cons, List.countP_nil, hb]
          simp only [Bool.not_false, if_true]
          omega
      · have e : gstep (s, g) k false = (s, g) := by unfold gstep; rw [if_neg (fun h => hs h.2), if_neg (fun h => by cases h.1)]
        rw [e]
        refine ⟨h1, by show s < _; omega, fun i h0 hi hik => ?_, fun i hi => ?_, h5, by show lastU g ≤ _; omega, h7, fun p hp => ⟨(h8 p hp).1, by have := (h8 p hp).2; omega⟩, ?_⟩
        · rcases Nat.lt_or_ge i k with h | h
          · exact h3 i h0 hi h
          · obtain rfl : i = k := by omega
            exact hb
        · rcases Nat.lt_or_ge i k with hik | hik
          · exact h4 i hik
          · obtain rfl : i = k := by omega
            exact ⟨fun _ => .inr ⟨by show (0 : Int) ≤ s; omega, by show s ≤ _; omega⟩, fun _ => hb⟩
        · show (g.map _).sum + (if 0 ≤ s then ((k + 1 : Nat) : Int) - s else 0) = _
          rw [List.range_succ, List.countP_append, if_pos (by omega)]
          rw [if_pos (by omega)] at h9
          simp only [List.countP_cons, List.countP_nil, hb]
          simp only [Bool.not_false, if_true]
          omega
    · by_cases hs : s < 0
      · have e : gstep (s, g) k true = (s, g) := by unfold gstep; rw [if_neg (fun h => by cases h.1), if_neg (fun h => by have := h.2; simp only [] at this; omega)]
        rw [e]
        refine ⟨h1, by show s < _; omega, fun i h0 _ _ => by have h0 : 0 ≤ s := h0; omega, fun i hi => ?_, h5, by show lastU g ≤ _; omega, h7, fun p hp => ⟨(h8 p hp).1, by have := (h8 p hp).2; omega⟩, ?_⟩
        · rcases Nat.lt_or_ge i k with hik | hik
          · exact h4 i hik
          · obtain rfl : i = k := by omega
            refine ⟨fun h => (by rw [hb] at h; cases h), fun h => ?_⟩
            rcases h with ⟨p, hp, _, hp2⟩ | ⟨h, _⟩
            · have := (h8 p hp).2; omega
            · have h : 0 ≤ s := h; omega
        · show (g.map _).sum + (if 0 ≤ s then ((k + 1 : Nat) : Int) - s else 0) = _
          rw [List.range_succ, List.countP_append, if_neg (by omega)]
          rw [if_neg (by omega)] at h9
          simp only [List.countP_cons, List.countP_nil, hb]
          simp only [Bool.not_true, Bool.false_eq_true, if_false]
          omega
      · have e : gstep (s, g) k true = (-1, g ++ [(s, (k : Int))]) := by unfold gstep; rw [if_neg (fun h => by cases h.1), if_pos ⟨rfl, by show 0 ≤ s; omega⟩]
        rw [e]
        refine ⟨Int.le_refl _, by show (-1 : Int) < _; omega, fun i h0 _ _ => by have h0 : (0 : Int) ≤ -1 := h0; omega, fun i hi => ?_, srt_app h5 (h7 (by omega)) (by show s < _; omega), ?_, fun h => by have h : (0 : Int) ≤ -1 := h; omega, fun p hp => ?_, ?_⟩
        · show _ ↔ ((∃ p ∈ g ++ [(s, (k : Int))], _) ∨ (0 ≤ (-1 : Int) ∧ (-1 : Int) ≤ i))
          rcases Nat.lt_or_ge i k with hik | hik
          · rw [h4 i hik]
            refine ⟨fun h => ?_, fun h => ?_⟩
            · rcases h with ⟨p, hp, h⟩ | ⟨_, h⟩
              · exact .inl ⟨p, List.mem_append_left _ hp, h⟩
              · exact .inl ⟨(s, (k : Int)), List.mem_append_right _ (by simp), h, by show (i : Int) < k; omega⟩
            · rcases h with ⟨p, hp, h⟩ | ⟨h, _⟩
              · rcases List.mem_append.1 hp with hp | hp
                · exact .inl ⟨p, hp, h⟩
                · simp at hp; subst hp; exact .inr ⟨by omega, h.1⟩
              · omega
          · obtain rfl : i = k := by omega
            refine ⟨fun h => (by rw [hb] at h; cases h), fun h => ?_⟩
            rcases h with ⟨p, hp, _, hp2⟩ | ⟨h, _⟩
            · rcases List.mem_append.1 hp with hp | hp
              · have := (h8 p hp).2; omega
              · simp at hp; subst hp; simp only [] at hp2; omega
            · omega
        · show lastU (g ++ [(s, (k : Int))]) ≤ _
          rw [lastU_app]; show (k : Int) ≤ _; omega
        · rcases List.mem_append.1 hp with hp | hp
          · exact ⟨(h8 p hp).1, by have := (h8 p hp).2; omega⟩
          · simp at hp; subst hp; exact ⟨by show 0 ≤ s; omega, by show (k : Int) ≤ _; omega⟩
        · show ((g ++ [(s, (k : Int))]).map _).sum + (if 0 ≤ (-1 : Int) then ((k + 1 : Nat) : Int) - (-1) else 0) = _
          rw [List.range_succ, List.countP_append, if_neg (by omega), List.map_append, List.sum_append]
          rw [if_pos (by omega)] at h9
          simp only [List.countP_cons, List.countP_nil, hb, List.map_cons, List.map_nil, List.sum_cons, List.sum_nil]
          simp only [Bool.not_true, Bool.false_eq_true, if_false]
          omega
theorem getD_app1 (hv : List Bool) (i : Nat) (h : i < hv.length) : (hv ++ [true]).getD i false = hv.getD i false := by
  unfold List.getD; rw [List.getElem?_append_left h]
theorem gaps_all (hv : List Bool) : (∀ i : Nat, i < hv.length → (hv.getD i false = false ↔ ∃ p ∈ gapsL hv, p.1 ≤ (i : Int) ∧ (i : Int) < p.2)) ∧ Srt (gapsL hv) ∧ (∀ p ∈ gapsL hv, 0 ≤ p.1 ∧ p.1 < p.2 ∧ p.2 ≤ hv.length) ∧
    ((gapsL hv).map (fun p => p.2 - p.1)).sum = (((List.range hv.length).countP (fun i => ! hv.getD i false) : Nat) : Int) := by
  have h := gst_gi (hv ++ [true]) (hv.length + 1)
  have hlast : (hv ++ [true]).getD hv.length false = true := by unfold List.getD; rw [List.getElem?_concat_length]; rfl
  have hs : (gst (hv ++ [true]) (hv.length + 1)).1 < 0 := by
    rcases Int.lt_or_le (gst (hv ++ [true]) (hv.length + 1)).1 0 with h0 | h0
    · exact h0
    · have h1 := h.free hv.length h0 (by have := h.hi; omega) (by omega)
      rw [hlast] at h1; cases h1
  refine ⟨fun i hi => ?_, h.srt, fun p hp => ?_, ?_⟩
  · have h1 := h.iff i (by omega)
    rw [getD_app1 hv i hi] at h1
    rw [h1]
    exact ⟨fun h => by rcases h with h | h; exact h; omega, .inl⟩
  · obtain ⟨i, hi, rfl⟩ := List.getElem_of_mem hp
    have h1 := h.inn _ hp
    have h2 := h.srt i _ (List.getElem?_eq_getElem hi)
    exact ⟨h1.1, h2.2, by have := h1.2; omega⟩
  · have h1 := h.cnt
    rw [if_neg (by omega), List.range_succ, List.countP_append] at h1
    simp only [List.countP_cons, List.countP_nil, hlast] at h1
    simp only [Bool.not_true, Bool.false_eq_true, if_false] at h1
    have h2 : (List.range hv.length).countP (fun i => ! (hv ++ [true]).getD i false) = (List.range hv.length).countP (fun i => ! hv.getD i false) := by
      apply List.countP_congr
      intro i hi
      rw [List.mem_range] at hi
      rw [getD_app1 hv i hi]
    rw [h2] at h1
    show ((gst (hv ++ [true]) (hv.length + 1)).2.map _).sum = _
    omega
theorem gaps_none {hv : List Bool} : gapsL hv = [] ↔ ∀ i, i < hv.length → hv.getD i false = true := by
  obtain ⟨h1, _, h3, _⟩ := gaps_all hv
  refine ⟨fun h i hi => ?_, fun h => ?_⟩
  · rcases hc : hv.getD i false with _ | _
    · obtain ⟨p, hp, _⟩ := (h1 i hi).1 hc
      rw [h] at hp; cases hp
    · rfl
  · rcases hg : gapsL hv with _ | ⟨p, r⟩
    · rfl
    · exfalso
      have hp : p ∈ gapsL hv := by rw [hg]; exact List.mem_cons_self
      obtain ⟨a, b, c⟩ := h3 p hp
      have hi : p.1.toNat < hv.length := by omega
      have := (h1 p.1.toNat hi).2 ⟨p, hp, by omega, by omega⟩
      rw [h _ hi] at this; cases this
/-- a part that has the whole file -/
theorem fit_done {id : Int} {x : List Nat} {M : Pm} (h : Fit id x M) (hk : M.kn = true) (ha : ∀ i, i < x.length → M.hv.getD i false = true) : gapsM M = [] ∧ bytesM M = (x, 0) := by
  have hl := (h.sm hk).2
  have hg : gapsL M.hv = [] := gaps_none.2 (fun i hi => ha i (by rw [← hl, ← h.ok.len]; exact hi))
  have hd : M.dt = x := by
    apply List.ext_getElem? 
    intro i
    rcases Nat.lt_or_ge i x.length with hi | hi
    · have e := h.eq i (ha i hi)
      unfold List.getD at e
      rw [List.getElem?_eq_getElem (by omega), List.getElem?_eq_getElem hi] at e ⊢
      simpa using e
    · rw [List.getElem?_eq_none (by omega), List.getElem?_eq_none hi]
  refine ⟨by unfold gapsM; rw [if_pos hk, hg], ?_⟩
  unfold bytesM
  rw [if_neg (by rw [hk]; simp), if_neg (by rw [hg]; simp), hd, (h.sm hk).1, if_neg (fun h => h rfl)]
end Go.Proofs.YtgfekgceeigdiaaDoor
namespace Go.Proofs.YtgfekgceeigdiaaDoor
open Go.RowKit
attribute [local go_sem ↓] Go.wp_at_zero Go.wp_at_succ
end Go.Proofs.YtgfekgceeigdiaaDoor
