/- File: plain laws: segments with a sum of their own; answers complete a file; passes. -/
import Derived.Test.YtgeicbjlichdgaaDoorFileO
import Derived.Test.YtgeicbjlichdgaaDoorFileS
namespace Go.Proofs.YtgeicbjlichdgaaDoor
open Go.RowKit
structure OfS (id : Int) (x : List Nat) (S : Nat) (sg : Seg) : Prop where
  f : sg.f = id
  o : 0 ≤ sg.o
  t : sg.t = x.length
  s : sg.s = S
  e : sg.o + sg.d.length ≤ x.length
  n : sg.d.length ≤ 256
  d : sg.d = (x.drop sg.o.toNat).take sg.d.length
structure FitS (id : Int) (x : List Nat) (S : Nat) (M : Pm) : Prop where
  id : M.id = id
  ok : M.ok
  un : M.kn = false → M.hv = []
  sm : M.kn = true → M.sm = S ∧ M.dt.length = x.length
  eq : ∀ i, M.hv.getD i false = true → M.dt.getD i 0 = x.getD i 0
theorem of_getS {id : Int} {S : Nat} {x : List Nat} {s : Seg} (h : OfS id x S s) (k : Nat) (hk : k < s.d.length) : s.d.getD k 0 = x.getD (s.o.toNat + k) 0 := by
  have e := h.d
  unfold List.getD
  rw [e, List.getElem?_take, if_pos hk, List.getElem?_drop]
theorem put_ofS {id : Int} {S : Nat} {x : List Nat} {s : Seg} {M : Pm} (hx : x.length ≤ 65536) (hb : ∀ c ∈ x, c < 256) (hS : S < 4294967296) (h : FitS id x S M) (hs : OfS id x S s) :
    putE M s = 0 ∧ FitS id x S (putM M s) ∧ (putM M s).kn = true ∧ (∀ i, (putM M s).hv.getD i false = (M.hv.getD i false || inS s i)) := by
  have ho := hs.o; have he := hs.e
  have hV : Valid s := ⟨by rw [hs.t]; omega, by rw [hs.t]; omega, hs.n, ho, by rw [hs.t]; omega⟩
  have hs32 : s.s < 4294967296 := by rw [hs.s]; exact hS
  have hno : ¬ (M.kn = true ∧ (s.t ≠ M.dt.length ∨ s.s ≠ M.sm)) := fun ⟨h1, h2⟩ => by
    obtain ⟨h3, h4⟩ := h.sm h1
    rcases h2 with h2 | h2
    · exact h2 (by rw [hs.t, h4])
    · exact h2 (by rw [hs.s, h3])
  have hI := initM_ok h.ok hV hs32
  have hIl := initM_len hV hno
  have hIkn : (initM M s).kn = true := by unfold initM; split; assumption; rfl
  have hIid : (initM M s).id = id := by unfold initM; split; exact h.id; exact h.id
  have hIsm : (initM M s).sm = S := by
    unfold initM; split
    · rename_i h1; exact (h.sm h1).1
    · exact hs.s
  have hIhv : ∀ i, (initM M s).hv.getD i false = M.hv.getD i false := by
    intro i
    unfold initM; split
    · rfl
    · rename_i h1
      rw [h.un (by simpa using h1)]
      show (List.replicate s.t.toNat false).getD i false = _
      simp only [List.getD, List.getElem?_replicate]
      split <;> rfl
  have hIeq : ∀ i, (initM M s).hv.getD i false = true → (initM M s).dt.getD i 0 = x.getD i 0 := by
    intro i hi
    rw [hIhv] at hi
    have h2 := h.eq i hi
    have hk : M.kn = true := by
      rcases hk : M.kn with _ | _
      · rw [h.un hk] at hi; simp at hi
      · rfl
    unfold initM; rw [if_pos hk]; exact h2
  have hIl2 : (initM M s).dt.length = x.length := by rw [hs.t] at hIl; omega
  have hIl3 : (initM M s).hv.length = x.length := by rw [hI.len, hIl2]
  have hC : anyC (initM M s) s = false := by
    unfold anyC
    rw [List.any_eq_false]
    intro k hk
    rw [List.mem_range] at hk
    unfold confl
    rw [of_getS hs k hk]
    rcases hc : (initM M s).hv.getD (s.o.toNat + k) false with _ | _
    · simp
    · rw [hIeq _ hc]; simp
  have hE : putE M s = 0 := by
    unfold putE
    rw [if_neg (fun h' => h' (by rw [hs.f, h.id])), if_neg (fun h' => h' hV), if_neg hno, hC]; rfl
  have hP : putM M s = overM (initM M s) s := by unfold putM; rw [if_pos hE]
  have b1 : s.o.toNat + (List.replicate s.d.length true).length ≤ (initM M s).hv.length := by rw [List.length_replicate, hIl3]; omega
  have b2 : s.o.toNat + s.d.length ≤ (initM M s).dt.length := by rw [hIl2]; omega
  have hH : ∀ i, (overM (initM M s) s).hv.getD i false = (M.hv.getD i false || inS s i) := by
    intro i
    show (ovr (initM M s).hv s.o.toNat (List.replicate s.d.length true)).getD i false = _
    rw [getD_ovr false b1 i, List.length_replicate, hIhv]
    unfold inS
    split
    · rename_i h1
      rw [decide_eq_true (by omega : s.o ≤ i), decide_eq_true (by omega : (i : Int) < s.o + s.d.length)]
      simp only [List.getD, List.getElem?_replicate]
      rw [if_pos (by omega)]
      cases M.hv[i]?.getD false <;> rfl
    · rename_i h1
      rcases (show ¬ (s.o ≤ i) ∨ ¬ ((i : Int) < s.o + s.d.length) by omega) with h2 | h2
      · rw [decide_eq_false h2]; simp
      · rw [decide_eq_false h2]; simp
  refine ⟨hE, ?_, by rw [hP]; exact hIkn, by rw [hP]; exact hH⟩
  rw [hP]
  refine ⟨hIid, ⟨?_, ?_, ?_, ?_, ?_⟩, ?_, ?_, ?_⟩
  · show (ovr _ _ _).length = (ovr _ _ _).length
    rw [ovr_length b1, ovr_length b2, hI.len]
  · show (ovr _ _ _).length ≤ _
    rw [ovr_length b2]; exact hI.max
  · intro c hc
    have hc : c ∈ ovr (initM M s).dt s.o.toNat s.d := hc
    unfold ovr at hc
    rcases List.mem_append.1 hc with hc | hc
    · rcases List.mem_append.1 hc with hc | hc
      · exact hI.b c (List.mem_of_mem_take hc)
      · rw [hs.d] at hc; exact hb c (List.mem_of_mem_drop (List.mem_of_mem_take hc))
    · exact hI.b c (List.mem_of_mem_drop hc)
  · exact hI.s
  · intro h'; rw [show (overM (initM M s) s).kn = (initM M s).kn from rfl, hIkn] at h'; cases h'
  · intro h'; rw [show (overM (initM M s) s).kn = (initM M s).kn from rfl, hIkn] at h'; cases h'
  · intro _
    refine ⟨hIsm, ?_⟩
    show (ovr _ _ _).length = _
    rw [ovr_length b2, hIl2]
  · intro i hi
    rw [hH] at hi
    show (ovr (initM M s).dt s.o.toNat s.d).getD i 0 = _
    rw [getD_ovr 0 b2 i]
    split
    · rename_i h1
      rw [of_getS hs _ (by omega)]
      congr 1; omega
    · rename_i h1
      refine hIeq i ?_
      rw [hIhv]
      unfold inS at hi
      rcases (show ¬ (s.o ≤ i) ∨ ¬ ((i : Int) < s.o + s.d.length) by omega) with h2 | h2
      · rw [decide_eq_false h2] at hi; simpa using hi
      · rw [decide_eq_false h2] at hi; simpa using hi
/-- many segments of one file -/
theorem puts_ofS {id : Int} {S : Nat} {x : List Nat} (hx : x.length ≤ 65536) (hb : ∀ c ∈ x, c < 256) (hS : S < 4294967296) : ∀ (l : List Seg) (M : Pm), FitS id x S M → (∀ s ∈ l, OfS id x S s) → FitS id x S (l.foldl putM M) ∧ (l ≠ [] → (l.foldl putM M).kn = true) ∧ (∀ i, (l.foldl putM M).hv.getD i false = (M.hv.getD i false || l.any (fun s => inS s i)))
  | [], M, h, hl => ⟨h, fun h => absurd rfl h, fun i => by simp⟩
  | s :: l, M, h, hl => by
    obtain ⟨_, h1, h2, h3⟩ := put_ofS hx hb hS h (hl s List.mem_cons_self)
    obtain ⟨g1, g2, g3⟩ := puts_ofS hx hb hS l (putM M s) h1 (fun s' hs' => hl s' (List.mem_cons_of_mem _ hs'))
    refine ⟨g1, fun _ => ?_, fun i => ?_⟩
    · rcases l with _ | ⟨s', l'⟩
      · exact h2
      · exact g2 (by simp)
    · show ((l.foldl putM (putM M s)).hv.getD i false) = _
      rw [g3 i, h3 i, List.any_cons, Bool.or_assoc]
theorem newM_fitS (id : Int) (x : List Nat) (S : Nat) : FitS id x S (newM id) := ⟨rfl, newM_ok id, fun _ => rfl, fun h => (by cases h), fun i h => by simp [newM] at h⟩
theorem of_s {id : Int} {x : List Nat} {s : Seg} (S : Nat) (h : OfF id x s) : OfS id x S ⟨s.f, s.o, s.t, S, s.d⟩ := ⟨h.f, h.o, h.t, rfl, h.e, h.n, h.d⟩
theorem fit_doneS {id : Int} {S : Nat} {x : List Nat} {M : Pm} (h : FitS id x S M) (hk : M.kn = true) (ha : ∀ i, i < x.length → M.hv.getD i false = true) : gapsM M = [] ∧ bytesM M = if Cr.crc x ≠ S then ([], 8) else (x, 0) := by
  have hl := (h.sm hk).2
  have hg : gapsL M.hv = [] := gaps_none.2 (fun i hi => ha i (by rw [← hl, ← h.ok.len]; exact hi))
  have hd : M.dt = x := by
    apply List.ext_getElem? 
    intro i
    rcases Nat.lt_or_ge i x.length with hi | hi
    · have e := h.eq i (ha i hi)
      unfold List.getD at e
      rw [List.getElem?_eq_getElem (by omega), List.getElem?_eq_getElem hi] at e ⊢
      simpa using e
    · rw [List.getElem?_eq_none (by omega), List.getElem?_eq_none hi]
  refine ⟨by unfold gapsM; rw [if_pos hk, hg], ?_⟩
  unfold bytesM
  rw [if_neg (by rw [hk]; simp), if_neg (by rw [hg]; simp), hd, (h.sm hk).1]
/-- the answer to the gaps of a part completes the file -/
theorem answer_done {id z : Int} {x : List Nat} {M : Pm} (hx : x.length ≤ 65536) (hb : ∀ c ∈ x, c < 256) (hz : 1 ≤ z ∧ z ≤ 256) (h : Fit id x M) :
    gapsM ((answerL id x (gapsM M) z).foldl putM M) = [] ∧ bytesM ((answerL id x (gapsM M) z).foldl putM M) = (x, 0) := by
  obtain ⟨f1, f2, f3⟩ := puts_of hx hb (answerL id x (gapsM M) z) M h (fun s hs => (answer_of s hs).1)
  have hcov : ∀ i, i < x.length → (answerL id x (gapsM M) z).any (fun s => inS s i) = true ∨ M.hv.getD i false = true := by
    intro i hi
    cases hk : M.kn with
    | false =>
      left
      obtain ⟨s, hs, hi2⟩ := answer_cov (id := id) (gs := gapsM M) (g := (0, 65536)) hz hx hi (by unfold gapsM; rw [hk]; simp) (by show (0 : Int) ≤ i; omega) (by show (i : Int) < 65536; omega)
      exact List.any_eq_true.2 ⟨s, hs, hi2⟩
    | true =>
      cases hc : M.hv.getD i false with
      | true => exact .inr rfl
      | false =>
        left
        have hl : M.hv.length = x.length := by rw [h.ok.len]; exact (h.sm hk).2
        obtain ⟨g, hg, h1, h2⟩ := ((gaps_all M.hv).1 i (by omega)).1 hc
        obtain ⟨s, hs, hi2⟩ := answer_cov (id := id) (gs := gapsM M) (g := g) hz hx hi (by unfold gapsM; rw [if_pos hk]; exact hg) h1 h2
        exact List.any_eq_true.2 ⟨s, hs, hi2⟩
  have hkn : ((answerL id x (gapsM M) z).foldl putM M).kn = true := by
    rcases hA : answerL id x (gapsM M) z with _ | ⟨s, r⟩
    · cases hk : M.kn with
      | true => exact hk
      | false =>
        exfalso
        rcases Nat.eq_zero_or_pos x.length with h0 | h0
        · have e := answer_some (id := id) (b := x) (gs := gapsM M) hz (List.eq_nil_of_length_eq_zero h0) (by unfold gapsM; rw [hk]; simp)
          rw [hA] at e; cases e
        · obtain ⟨s, hs, _⟩ := answer_cov (id := id) (gs := gapsM M) (g := (0, 65536)) hz hx h0 (by unfold gapsM; rw [hk]; simp) (by show (0 : Int) ≤ (0 : Nat); omega) (by show ((0 : Nat) : Int) < 65536; omega)
          rw [hA] at hs; cases hs
    · rw [← hA]; exact f2 (by rw [hA]; simp)
  refine fit_done f1 hkn (fun i hi => ?_)
  rw [f3 i]
  rcases hcov i hi with h' | h'
  · rw [h', Bool.or_true]
  · rw [h', Bool.true_or]
def missL (g : List (Int × Int)) : Int := (g.map (fun p => p.2 - p.1)).sum
theorem countP_less (p q : Nat → Bool) : ∀ l : List Nat, (∀ i ∈ l, p i = true → q i = true) → (∃ i ∈ l, q i = true ∧ p i = false) → l.countP p < l.countP q
  | [], _, h => by obtain ⟨i, hi, _⟩ := h; cases hi
  | a :: l, h, hx => by
    have hm : l.countP p ≤ l.countP q := List.countP_mono_left (fun i hi => h i (List.mem_cons_of_mem _ hi))
    rw [List.countP_cons, List.countP_cons]
    obtain ⟨i, hi, h1, h2⟩ := hx
    rcases List.mem_cons.1 hi with rfl | hi
    · rw [h1, h2]; simp; omega
    · have := countP_less p q l (fun i hi => h i (List.mem_cons_of_mem _ hi)) ⟨i, hi, h1, h2⟩
      have ha := h a List.mem_cons_self
      cases hp : p a with
      | false => simp; omega
      | true => rw [ha hp]; simp; omega
theorem miss_fit {id : Int} {x : List Nat} {M : Pm} (h : Fit id x M) (hk : M.kn = true) : missL (gapsM M) = (((List.range x.length).countP (fun i => ! M.hv.getD i false) : Nat) : Int) := by
  have hl : M.hv.length = x.length := by rw [h.ok.len]; exact (h.sm hk).2
  have := (gaps_all M.hv).2.2.2
  rw [hl] at this
  unfold missL gapsM; rw [if_pos hk]; exact this
/-- a pass: some of the answer arrives -/
theorem pass_miss {id z : Int} {x : List Nat} {M : Pm} (hx : x.length ≤ 700) (hb : ∀ c ∈ x, c < 256) (h : Fit id x M) (R : List Seg) (hR : ∀ s ∈ R, s ∈ answerL id x (gapsM M) z) :
    Fit id x (R.foldl putM M) ∧ missL (gapsM (R.foldl putM M)) ≤ missL (gapsM M) ∧ (R.any (fun s => decide (0 < s.d.length)) = true → missL (gapsM (R.foldl putM M)) < missL (gapsM M)) := by
  obtain ⟨f1, f2, f3⟩ := puts_of (show x.length ≤ 65536 by omega) hb R M h (fun s hs => (answer_of s (hR s hs)).1)
  refine ⟨f1, ?_⟩
  rcases hRe : R with _ | ⟨r, rs⟩
  · exact ⟨Int.le_refl _, fun h' => by simp at h'⟩
  · rw [← hRe]
    have hk' := f2 (by rw [hRe]; simp)
    have e' := miss_fit f1 hk'
    have hle : (List.range x.length).countP (fun i => ! (R.foldl putM M).hv.getD i false) ≤ x.length := by
      have := List.countP_le_length (p := fun i => ! (R.foldl putM M).hv.getD i false) (l := List.range x.length)
      rw [List.length_range] at this; exact this
    cases hk : M.kn with
    | false =>
      have e : missL (gapsM M) = 65536 := by unfold gapsM missL; rw [hk]; rfl
      rw [e, e']
      exact ⟨by omega, fun _ => by omega⟩
    | true =>
      have e := miss_fit h hk
      have hl : M.hv.length = x.length := by rw [h.ok.len]; exact (h.sm hk).2
      rw [e, e']
      have hmono : ∀ i, (! (R.foldl putM M).hv.getD i false) = true → (! M.hv.getD i false) = true := by
        intro i hi
        rw [f3 i] at hi
        cases hc : M.hv.getD i false with
        | false => rfl
        | true => rw [hc] at hi; simp at hi
      refine ⟨by have := List.countP_mono_left (l := List.range x.length) (fun i _ => hmono i); omega, fun hany => ?_⟩
      obtain ⟨s, hs, hd⟩ := List.any_eq_true.1 hany
      have hd : 0 < s.d.length := of_decide_eq_true hd
      obtain ⟨g1, g2⟩ := answer_of s (hR s hs)
      have ho := g1.o; have he := g1.e
      have hin : inS s s.o.toNat = true := by unfold inS; rw [decide_eq_true (by omega : s.o ≤ s.o.toNat), decide_eq_true (by omega : (s.o.toNat : Int) < s.o + s.d.length)]; rfl
      obtain ⟨g, hg, h1, h2⟩ := g2 hd _ hin
      have hc : M.hv.getD s.o.toNat false = false := ((gaps_all M.hv).1 _ (by omega)).2 ⟨g, by unfold gapsM at hg; rw [if_pos hk] at hg; exact hg, h1, h2⟩
      have := countP_less (fun i => ! (R.foldl putM M).hv.getD i false) (fun i => ! M.hv.getD i false) (List.range x.length) (fun i _ => hmono i) ⟨s.o.toNat, List.mem_range.2 (by omega), by show (! M.hv.getD _ _) = true; rw [hc]; rfl, by
        show (! (R.foldl putM M).hv.getD _ _) = false
        rw [f3, List.any_eq_true.2 ⟨s, hs, hin⟩, Bool.or_true]; rfl⟩
      omega
/-- what arrives of the first i segments -/
def passL (A : List Seg) (lk : List Bool) : Nat → List Seg
  | 0 => []
  | i + 1 => match A[i]? with
    | some s => if lk.getD i false then passL A lk i else passL A lk i ++ [s]
    | none => passL A lk i
theorem passL_mem {A : List Seg} {lk : List Bool} : ∀ i, ∀ s ∈ passL A lk i, s ∈ A
  | 0, s, h => by cases h
  | i + 1, s, h => by
    unfold passL at h
    cases hA : A[i]? with
    | none => rw [hA] at h; exact passL_mem i s h
    | some y =>
      rw [hA] at h
      simp only [] at h
      split at h
      · exact passL_mem i s h
      · rcases List.mem_append.1 h with h | h
        · exact passL_mem i s h
        · rw [List.mem_singleton.1 h]; exact List.mem_of_getElem? hA
theorem passL_in {A : List Seg} {lk : List Bool} {i : Nat} {s : Seg} (hA : A[i]? = some s) (h : lk.getD i false = false) : passL A lk (i + 1) = passL A lk i ++ [s] := by
  show (match A[i]? with | some s => if lk.getD i false then passL A lk i else passL A lk i ++ [s] | none => passL A lk i) = _
  rw [hA]; simp only []; rw [h]; rfl
theorem passL_out {A : List Seg} {lk : List Bool} {i : Nat} {s : Seg} (hA : A[i]? = some s) (h : lk.getD i false = true) : passL A lk (i + 1) = passL A lk i := by
  show (match A[i]? with | some s => if lk.getD i false then passL A lk i else passL A lk i ++ [s] | none => passL A lk i) = _
  rw [hA]; simp only []; rw [h]; rfl
end Go.Proofs.YtgeicbjlichdgaaDoor
