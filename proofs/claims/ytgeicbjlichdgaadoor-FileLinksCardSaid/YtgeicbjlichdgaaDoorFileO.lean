/- File: the plain laws of the missing ranges. -/
import Derived.Test.YtgeicbjlichdgaaDoorFileN
namespace Go.Proofs.YtgeicbjlichdgaaDoor
open Go.RowKit
/-- where the last range ends -/
def lastU (g : List (Int × Int)) : Int := match g.getLast? with | none => -1 | some p => p.2
def Srt (g : List (Int × Int)) : Prop := ∀ i p, g[i]? = some p → lastU (g.take i) < p.1 ∧ p.1 < p.2
theorem lastU_nil : lastU [] = -1 := rfl
theorem lastU_app (g : List (Int × Int)) (p : Int × Int) : lastU (g ++ [p]) = p.2 := by unfold lastU; rw [List.getLast?_append]; rfl
theorem lastU_take {g : List (Int × Int)} {i : Nat} {p : Int × Int} (h : g[i]? = some p) : lastU (g.take (i + 1)) = p.2 := by
  rw [List.take_add_one, h]; exact lastU_app _ _
theorem srt_app {g : List (Int × Int)} {p : Int × Int} (h : Srt g) (h1 : lastU g < p.1) (h2 : p.1 < p.2) : Srt (g ++ [p]) := by
  intro i q hq
  rcases Nat.lt_trichotomy i g.length with hi | hi | hi
  · rw [List.getElem?_append_left hi] at hq
    rw [List.take_append_of_le_length (by omega)]
    exact h i q hq
  · subst hi
    rw [List.getElem?_concat_length] at hq
    injection hq with hq; subst hq
    rw [List.take_append_of_le_length (Nat.le_refl _), List.take_length]
    exact ⟨h1, h2⟩
  · rw [List.getElem?_eq_none (by simp; omega)] at hq; cases hq
/-- the earlier ones end earlier -/
theorem srt_before {g : List (Int × Int)} (h : Srt g) : ∀ i, i ≤ g.length → ∀ p ∈ g.take i, p.2 ≤ lastU (g.take i)
  | 0, _, p, hp => by simp at hp
  | i + 1, hi, p, hp => by
    have hgi := List.getElem?_eq_getElem (show i < g.length by omega)
    rw [lastU_take hgi]
    rw [List.take_add_one, hgi] at hp
    rcases List.mem_append.1 hp with hp | hp
    · have h1 := srt_before h i (by omega) p hp
      have h2 := h i _ hgi
      omega
    · simp at hp; subst hp; exact Int.le_refl _
structure GI (l : List Bool) (k : Nat) (s : Int) (g : List (Int × Int)) : Prop where
  lo : -1 ≤ s
  hi : s < k
  free : ∀ i : Nat, 0 ≤ s → s ≤ i → i < k → l.getD i false = false
  iff : ∀ i : Nat, i < k → (l.getD i false = false ↔ ((∃ p ∈ g, p.1 ≤ (i : Int) ∧ (i : Int) < p.2) ∨ (0 ≤ s ∧ s ≤ i)))
  srt : Srt g
  last : lastU g ≤ (k : Int) - 1
  gap : 0 ≤ s → lastU g < s
  inn : ∀ p ∈ g, 0 ≤ p.1 ∧ p.2 ≤ (k : Int) - 1
  cnt : (g.map (fun p => p.2 - p.1)).sum + (if 0 ≤ s then (k : Int) - s else 0) = (((List.range k).countP (fun i => ! l.getD i false) : Nat) : Int)
theorem gst_gi (l : List Bool) : ∀ k, GI l k (gst l k).1 (gst l k).2
  | 0 => ⟨Int.le_refl _, by show (-1 : Int) < 0; omega, fun i _ _ h => by omega, fun i h => by omega, fun i p h => by simp [gst] at h, by show (-1 : Int) ≤ 0 - 1; omega, fun h => by exact absurd h (by show ¬ (0 : Int) ≤ -1; omega), fun p h => (by cases h), by simp [gst]⟩
  | k + 1 => by
    have ih := gst_gi l k
    rw [gst_s]
    generalize gst l k = st at *
    obtain ⟨s, g⟩ := st
    obtain ⟨h1, h2, h3, h4, h5, h6, h7, h8, h9⟩ := ih
    simp only [] at h1 h2 h3 h4 h5 h6 h7 h8 h9
    have hkk : ((k + 1 : Nat) : Int) = (k : Int) + 1 := by omega
    rcases hb : l.getD k false with _ | _
    · by_cases hs : s < 0
      · have e : gstep (s, g) k false = ((k : Int), g) := by unfold gstep; rw [if_pos ⟨rfl, hs⟩]
        rw [e]
        refine ⟨by show (-1 : Int) ≤ k; omega, by show (k : Int) < _; omega, fun i _ hi hik => ?_, fun i hi => ?_, h5, by show lastU g ≤ _; omega, fun _ => by show lastU g < (k : Int); omega, fun p hp => ⟨(h8 p hp).1, by have := (h8 p hp).2; omega⟩, ?_⟩
        · have hi : (k : Int) ≤ i := hi
          obtain rfl : i = k := by omega
          exact hb
        · show _ ↔ ((∃ p ∈ g, _) ∨ (0 ≤ (k : Int) ∧ (k : Int) ≤ i))
          rcases Nat.lt_or_ge i k with hik | hik
          · rw [h4 i hik]
            exact ⟨fun h => by rcases h with h | h; exact .inl h; omega, fun h => by rcases h with h | h; exact .inl h; omega⟩
          · obtain rfl : i = k := by omega
            exact ⟨fun _ => .inr ⟨by omega, by omega⟩, fun _ => hb⟩
        · show (g.map _).sum + (if 0 ≤ (k : Int) then ((k + 1 : Nat) : Int) - k else 0) = _
          rw [List.range_succ, List.countP_append, if_pos (by omega)]
          rw [if_neg (by omega)] at h9
          simp only [List.countP_cons, List.countP_nil, hb]
          simp only [Bool.not_false, if_true]
          omega
      · have e : gstep (s, g) k false = (s, g) := by unfold gstep; rw [if_neg (fun h => hs h.2), if_neg (fun h => by cases h.1)]
        rw [e]
        refine ⟨h1, by show s < _; omega, fun i h0 hi hik => ?_, fun i hi => ?_, h5, by show lastU g ≤ _; omega, h7, fun p hp => ⟨(h8 p hp).1, by have := (h8 p hp).2; omega⟩, ?_⟩
        · rcases Nat.lt_or_ge i k with h | h
          · exact h3 i h0 hi h
          · obtain rfl : i = k := by omega
            exact hb
        · rcases Nat.lt_or_ge i k with hik | hik
          · exact h4 i hik
          · obtain rfl : i = k := by omega
            exact ⟨fun _ => .inr ⟨by show (0 : Int) ≤ s; omega, by show s ≤ _; omega⟩, fun _ => hb⟩
        · show (g.map _).sum + (if 0 ≤ s then ((k + 1 : Nat) : Int) - s else 0) = _
          rw [List.range_succ, List.countP_append, if_pos (by omega)]
          rw [if_pos (by omega)] at h9
          simp only [List.countP_cons, List.countP_nil, hb]
          simp only [Bool.not_false, if_true]
          omega
    · by_cases hs : s < 0
      · have e : gstep (s, g) k true = (s, g) := by unfold gstep; rw [if_neg (fun h => by cases h.1), if_neg (fun h => by have := h.2; simp only [] at this; omega)]
        rw [e]
        refine ⟨h1, by show s < _; omega, fun i h0 _ _ => by have h0 : 0 ≤ s := h0; omega, fun i hi => ?_, h5, by show lastU g ≤ _; omega, h7, fun p hp => ⟨(h8 p hp).1, by have := (h8 p hp).2; omega⟩, ?_⟩
        · rcases Nat.lt_or_ge i k with hik | hik
          · exact h4 i hik
          · obtain rfl : i = k := by omega
            refine ⟨fun h => (by rw [hb] at h; cases h), fun h => ?_⟩
            rcases h with ⟨p, hp, _, hp2⟩ | ⟨h, _⟩
            · have := (h8 p hp).2; omega
            · have h : 0 ≤ s := h; omega
        · show (g.map _).sum + (if 0 ≤ s then ((k + 1 : Nat) : Int) - s else 0) = _
          rw [List.range_succ, List.countP_append, if_neg (by omega)]
          rw [if_neg (by omega)] at h9
          simp only [List.countP_cons, List.countP_nil, hb]
          simp only [Bool.not_true, Bool.false_eq_true, if_false]
          omega
      · have e : gstep (s, g) k true = (-1, g ++ [(s, (k : Int))]) := by unfold gstep; rw [if_neg (fun h => by cases h.1), if_pos ⟨rfl, by show 0 ≤ s; omega⟩]
        rw [e]
        refine ⟨Int.le_refl _, by show (-1 : Int) < _; omega, fun i h0 _ _ => by have h0 : (0 : Int) ≤ -1 := h0; omega, fun i hi => ?_, srt_app h5 (h7 (by omega)) (by show s < _; omega), ?_, fun h => by have h : (0 : Int) ≤ -1 := h; omega, fun p hp => ?_, ?_⟩
        · show _ ↔ ((∃ p ∈ g ++ [(s, (k : Int))], _) ∨ (0 ≤ (-1 : Int) ∧ (-1 : Int) ≤ i))
          rcases Nat.lt_or_ge i k with hik | hik
          · rw [h4 i hik]
            refine ⟨fun h => ?_, fun h => ?_⟩
            · rcases h with ⟨p, hp, h⟩ | ⟨_, h⟩
              · exact .inl ⟨p, List.mem_append_left _ hp, h⟩
              · exact .inl ⟨(s, (k : Int)), List.mem_append_right _ (by simp), h, by show (i : Int) < k; omega⟩
            · rcases h with ⟨p, hp, h⟩ | ⟨h, _⟩
              · rcases List.mem_append.1 hp with hp | hp
                · exact .inl ⟨p, hp, h⟩
                · simp at hp; subst hp; exact .inr ⟨by omega, h.1⟩
              · omega
          · obtain rfl : i = k := by omega
            refine ⟨fun h => (by rw [hb] at h; cases h), fun h => ?_⟩
            rcases h with ⟨p, hp, _, hp2⟩ | ⟨h, _⟩
            · rcases List.mem_append.1 hp with hp | hp
              · have := (h8 p hp).2; omega
              · simp at hp; subst hp; simp only [] at hp2; omega
            · omega
        · show lastU (g ++ [(s, (k : Int))]) ≤ _
          rw [lastU_app]; show (k : Int) ≤ _; omega
        · rcases List.mem_append.1 hp with hp | hp
          · exact ⟨(h8 p hp).1, by have := (h8 p hp).2; omega⟩
          · simp at hp; subst hp; exact ⟨by show 0 ≤ s; omega, by show (k : Int) ≤ _; omega⟩
        · show ((g ++ [(s, (k : Int))]).map _).sum + (if 0 ≤ (-1 : Int) then ((k + 1 : Nat) : Int) - (-1) else 0) = _
          rw [List.range_succ, List.countP_append, if_neg (by omega), List.map_append, List.sum_append]
          rw [if_pos (by omega)] at h9
          simp only [List.countP_cons, List.countP_nil, hb, List.map_cons, List.map_nil, List.sum_cons, List.sum_nil]
          simp only [Bool.not_true, Bool.false_eq_true, if_false]
          omega
theorem getD_app1 (hv : List Bool) (i : Nat) (h : i < hv.length) : (hv ++ [true]).getD i false = hv.getD i false := by
  unfold List.getD; rw [List.getElem?_append_left h]
theorem gaps_all (hv : List Bool) : (∀ i : Nat, i < hv.length → (hv.getD i false = false ↔ ∃ p ∈ gapsL hv, p.1 ≤ (i : Int) ∧ (i : Int) < p.2)) ∧ Srt (gapsL hv) ∧ (∀ p ∈ gapsL hv, 0 ≤ p.1 ∧ p.1 < p.2 ∧ p.2 ≤ hv.length) ∧
    ((gapsL hv).map (fun p => p.2 - p.1)).sum = (((List.range hv.length).countP (fun i => ! hv.getD i false) : Nat) : Int) := by
  have h := gst_gi (hv ++ [true]) (hv.length + 1)
  have hlast : (hv ++ [true]).getD hv.length false = true := by unfold List.getD; rw [List.getElem?_concat_length]; rfl
  have hs : (gst (hv ++ [true]) (hv.length + 1)).1 < 0 := by
    rcases Int.lt_or_le (gst (hv ++ [true]) (hv.length + 1)).1 0 with h0 | h0
    · exact h0
    · have h1 := h.free hv.length h0 (by have := h.hi; omega) (by omega)
      rw [hlast] at h1; cases h1
  refine ⟨fun i hi => ?_, h.srt, fun p hp => ?_, ?_⟩
  · have h1 := h.iff i (by omega)
    rw [getD_app1 hv i hi] at h1
    rw [h1]
    exact ⟨fun h => by rcases h with h | h; exact h; omega, .inl⟩
  · obtain ⟨i, hi, rfl⟩ := List.getElem_of_mem hp
    have h1 := h.inn _ hp
    have h2 := h.srt i _ (List.getElem?_eq_getElem hi)
    exact ⟨h1.1, h2.2, by have := h1.2; omega⟩
  · have h1 := h.cnt
    rw [if_neg (by omega), List.range_succ, List.countP_append] at h1
    simp only [List.countP_cons, List.countP_nil, hlast] at h1
    simp only [Bool.not_true, Bool.false_eq_true, if_false] at h1
    have h2 : (List.range hv.length).countP (fun i => ! (hv ++ [true]).getD i false) = (List.range hv.length).countP (fun i => ! hv.getD i false) := by
      apply List.countP_congr
      intro i hi
      rw [List.mem_range] at hi
      rw [getD_app1 hv i hi]
    rw [h2] at h1
    show ((gst (hv ++ [true]) (hv.length + 1)).2.map _).sum = _
    omega
theorem gaps_none {hv : List Bool} : gapsL hv = [] ↔ ∀ i, i < hv.length → hv.getD i false = true := by
  obtain ⟨h1, _, h3, _⟩ := gaps_all hv
  refine ⟨fun h i hi => ?_, fun h => ?_⟩
  · rcases hc : hv.getD i false with _ | _
    · obtain ⟨p, hp, _⟩ := (h1 i hi).1 hc
      rw [h] at hp; cases hp
    · rfl
  · rcases hg : gapsL hv with _ | ⟨p, r⟩
    · rfl
    · exfalso
      have hp : p ∈ gapsL hv := by rw [hg]; exact List.mem_cons_self
      obtain ⟨a, b, c⟩ := h3 p hp
      have hi : p.1.toNat < hv.length := by omega
      have := (h1 p.1.toNat hi).2 ⟨p, hp, by omega, by omega⟩
      rw [h _ hi] at this; cases this
/-- a part that has the whole file -/
theorem fit_done {id : Int} {x : List Nat} {M : Pm} (h : Fit id x M) (hk : M.kn = true) (ha : ∀ i, i < x.length → M.hv.getD i false = true) : gapsM M = [] ∧ bytesM M = (x, 0) := by
  have hl := (h.sm hk).2
  have hg : gapsL M.hv = [] := gaps_none.2 (fun i hi => ha i (by rw [← hl, ← h.ok.len]; exact hi))
  have hd : M.dt = x := by
    apply List.ext_getElem? 
    intro i
    rcases Nat.lt_or_ge i x.length with hi | hi
    · have e := h.eq i (ha i hi)
      unfold List.getD at e
      rw [List.getElem?_eq_getElem (by omega), List.getElem?_eq_getElem hi] at e ⊢
      simpa using e
    · rw [List.getElem?_eq_none (by omega), List.getElem?_eq_none hi]
  refine ⟨by unfold gapsM; rw [if_pos hk, hg], ?_⟩
  unfold bytesM
  rw [if_neg (by rw [hk]; simp), if_neg (by rw [hg]; simp), hd, (h.sm hk).1, if_neg (fun h => h rfl)]
end Go.Proofs.YtgeicbjlichdgaaDoor
