/- Custody: TopV, TopW, TopX, TopY: walks and plain facts. -/
import Derived.Test.YtgfekgceeigdiaaDoorTopO
import Derived.Test.YtgfekgceeigdiaaDoorTopPl
namespace Go.Proofs.YtgfekgceeigdiaaDoor
open Go.RowKit
/-- a message that changes nothing -/
def inert (d : List Nat) : Prop := (Cr.opened d).2 ≠ 0 ∨ ∃ y, Cr.opened d = (y, 0) ∧ ((rdK y).2 = 1 ∧ Wi.sEnd (rdI y).1 ≠ 0 ∨ (rdK y).2 ≠ 1 ∧ Wi.sEnd (rdD y).1 ≠ 0)
theorem num_setT : ∀ (l : List Nat) (j q : Nat), j < l.length → Cr.num (l.set j (l.getD j 0 ^^^ q)) = Cr.num l ^^^ q * 2 ^ (8 * j)
  | [], j, q, h => by simp at h
  | c :: l, 0, q, _ => by
    show (c ^^^ q) ^^^ Cr.num l * 256 = (c ^^^ Cr.num l * 256) ^^^ q * 2 ^ 0
    rw [Nat.pow_zero, Nat.mul_one, Nat.xor_assoc, Nat.xor_assoc, Nat.xor_comm q]
  | c :: l, j + 1, q, h => by
    have ih := num_setT l j q (by simpa using h)
    show c ^^^ Cr.num (l.set j (l.getD j 0 ^^^ q)) * 256 = (c ^^^ Cr.num l * 256) ^^^ q * 2 ^ (8 * (j + 1))
    have e : q * 2 ^ (8 * (j + 1)) = q * 2 ^ (8 * j) * 2 ^ 8 := by rw [show 8 * (j + 1) = 8 * j + 8 by omega, Nat.pow_add, Nat.mul_assoc]
    rw [ih, e, show (256 : Nat) = 2 ^ 8 from rfl, Cr.xor_mul, Nat.xor_assoc]
set_option maxRecDepth 100000 in
theorem not255T (c : Nat) (h : c < 256) : 255 - c = c ^^^ 255 := by
  have key : ∀ c : _root_.Fin 256, 255 - c.val = c.val ^^^ 255 := by decide
  exact key ⟨c, h⟩
theorem gar_open {l : List Nat} (hf : ∀ c ∈ l, c < 256) (j : Nat) (hj : j < (Cr.seal_ l).length) : (Cr.opened ((Cr.seal_ l).set j (255 - (Cr.seal_ l).getD j 0))).2 ≠ 0 := by
  have hs := Cr.seal_lt hf
  have hl := Cr.seal_len l
  have hc : (Cr.seal_ l).getD j 0 < 256 := Cr.getD_lt hs j
  rw [not255T _ hc]
  have hx : ∀ c ∈ (Cr.seal_ l).set j ((Cr.seal_ l).getD j 0 ^^^ 255), c < 256 := fun c hc' => by
    rcases List.mem_or_eq_of_mem_set hc' with h | h
    · exact hs c h
    · rw [h]; exact Nat.xor_lt_two_pow (n := 8) hc (by decide)
  have h := Cr.opened_burst (l := l) (x := (Cr.seal_ l).set j ((Cr.seal_ l).getD j 0 ^^^ 255)) hf hx (by rw [List.length_set, hl]) (8 * j) 255 (by decide) (by rw [hl] at hj; omega) (num_setT _ _ _ hj)
  rw [h]; decide
theorem take_appT {x r : List Nat} {j : Nat} (hj : j < (x ++ r).length) : (j < x.length ∧ (x ++ r).take j = x.take j) ∨ ∃ k, k < r.length ∧ (x ++ r).take j = x ++ r.take k := by
  rcases Nat.lt_or_ge j x.length with h | h
  · exact .inl ⟨h, by rw [List.take_append_of_le_length (by omega)]⟩
  · exact .inr ⟨j - x.length, by rw [List.length_append] at hj; omega, by rw [List.take_append, List.take_of_length_le h]⟩
theorem sU_cutT {n j : Nat} (h : n ≤ 18446744073709551615) (hj : j < (Wi.enc n).length) : Wi.sU (0, (Wi.enc n).take j) = ((6, []), 0) := by
  have := Wi.rdU_cut n 0 0 j (by omega) (by simp; omega) hj
  simp [Wi.sU, this]
theorem sU_app {n : Nat} {r : List Nat} {j : Nat} (h : n ≤ 18446744073709551615) (hj : j < (Wi.enc n ++ r).length) :
    Wi.sU (0, (Wi.enc n ++ r).take j) = ((6, []), 0) ∨ ∃ k, k < r.length ∧ Wi.sU (0, (Wi.enc n ++ r).take j) = ((0, r.take k), n) := by
  rcases take_appT hj with ⟨h1, h2⟩ | ⟨k, h1, h2⟩
  · left; rw [h2]; exact sU_cutT h h1
  · right; exact ⟨k, h1, by rw [h2]; exact Wi.sU_enc _ h⟩
theorem sI_app {n : Int} {r : List Nat} {j : Nat} (h : -9223372036854775808 ≤ n ∧ n ≤ 9223372036854775807) (hj : j < (Wi.encI n ++ r).length) :
    Wi.sI (0, (Wi.encI n ++ r).take j) = ((6, []), 0) ∨ ∃ k, k < r.length ∧ Wi.sI (0, (Wi.encI n ++ r).take j) = ((0, r.take k), n) := by
  unfold Wi.encI Wi.sI at *
  rcases sU_app (Wi.zig_le h.1 h.2) hj with g | ⟨k, h1, g⟩
  · left; rw [g]; rfl
  · right; exact ⟨k, h1, by rw [g]; simp [Wi.zag_zig]⟩
theorem sB_cutT {d : List Nat} {j : Nat} (h : d.length ≤ 256) (hj : j < (Wi.encB d).length) : Wi.sEnd (Wi.sB 256 (0, (Wi.encB d).take j)).1 ≠ 0 := by
  unfold Wi.encB at *
  rcases take_appT hj with ⟨h1, h2⟩ | ⟨k, h1, h2⟩
  · rw [h2]
    have e : Wi.sSize 256 (0, (Wi.enc d.length).take j) = ((6, []), 0) := by
      unfold Wi.sSize; rw [sU_cutT (by omega) h1]; simp
    unfold Wi.sB; rw [e]; simp [Wi.sEnd]
  · rw [h2]
    unfold Wi.sB
    rw [Wi.sSize_enc (d.take k) (by omega) (by omega)]
    have : (d.take k).length < d.length := by rw [List.length_take]; omega
    simp only [if_true]
    rw [if_pos this]
    simp [Wi.sEnd]
theorem con_cut {i : Int} {j : Nat} (hi : -9223372036854775808 ≤ i ∧ i ≤ 9223372036854775807) (hj : j < (conL i).length) :
    (rdK ((conL i).take j)).2 = 1 ∧ Wi.sEnd (rdI ((conL i).take j)).1 ≠ 0 ∨ (rdK ((conL i).take j)).2 ≠ 1 ∧ Wi.sEnd (rdD ((conL i).take j)).1 ≠ 0 := by
  unfold conL at *
  rcases sI_app (n := 1) (by omega) hj with g | ⟨k, h1, g⟩
  · right
    have e : rdK ((Wi.encI 1 ++ Wi.encI i).take j) = ((6, []), 0) := g
    have h6 : ((6, []) : Wi.St).1 ≠ 0 := by decide
    refine ⟨by rw [e]; decide, ?_⟩
    unfold rdD rdS rdA rdO rdF rdI
    rw [e]
    simp only [Wi.sI_err h6, Wi.sU_err h6, Wi.sB_err 256 h6]
    decide
  · left
    have e : rdK ((Wi.encI 1 ++ Wi.encI i).take j) = ((0, (Wi.encI i).take k), 1) := g
    refine ⟨by rw [e], ?_⟩
    unfold rdI; rw [e]
    have h2 : k < (Wi.encI i ++ []).length := by rw [List.append_nil]; exact h1
    rcases sI_app hi h2 with q | ⟨k2, h3, _⟩
    · rw [List.append_nil] at q; rw [q]; decide
    · simp at h3
theorem off_cut {x : Bu} {j : Nat} (h : x.ok) (hj : j < (offL x).length) : (rdK ((offL x).take j)).2 ≠ 1 ∧ Wi.sEnd (rdD ((offL x).take j)).1 ≠ 0 := by
  unfold offL at *
  have h6 : ((6, []) : Wi.St).1 ≠ 0 := by decide
  generalize hy : List.take j _ = y
  have e0 := sI_app (n := 0) (by omega) hj
  rw [hy] at e0
  change rdK y = _ ∨ ∃ k, _ ∧ rdK y = _ at e0
  refine ⟨by rcases e0 with e | ⟨k, _, e⟩ <;> (rw [e]; simp), ?_⟩
  rcases e0 with e | ⟨k0, h0, e0⟩
  · unfold rdD rdS rdA rdO rdF rdI; rw [e]; simp only [Wi.sI_err h6, Wi.sU_err h6, Wi.sB_err 256 h6]; decide
  have e1 := sI_app h.i h0
  have q1 : rdI y = Wi.sI (rdK y).1 := rfl
  rw [e0] at q1; dsimp only at q1
  rw [← q1] at e1
  rcases e1 with e | ⟨k1, h1, e1⟩
  · unfold rdD rdS rdA rdO rdF; rw [e]; simp only [Wi.sI_err h6, Wi.sU_err h6, Wi.sB_err 256 h6]; decide
  have e2 := sI_app h.g h1
  have q2 : rdF y = Wi.sI (rdI y).1 := rfl
  rw [e1] at q2; dsimp only at q2
  rw [← q2] at e2
  rcases e2 with e | ⟨k2, h2, e2⟩
  · unfold rdD rdS rdA rdO; rw [e]; simp only [Wi.sI_err h6, Wi.sU_err h6, Wi.sB_err 256 h6]; decide
  have e3 := sI_app h.o h2
  have q3 : rdO y = Wi.sI (rdF y).1 := rfl
  rw [e2] at q3; dsimp only at q3
  rw [← q3] at e3
  rcases e3 with e | ⟨k3, h3, e3⟩
  · unfold rdD rdS rdA; rw [e]; simp only [Wi.sI_err h6, Wi.sU_err h6, Wi.sB_err 256 h6]; decide
  have e4 := sI_app h.a h3
  have q4 : rdA y = Wi.sI (rdO y).1 := rfl
  rw [e3] at q4; dsimp only at q4
  rw [← q4] at e4
  rcases e4 with e | ⟨k4, h4, e4⟩
  · unfold rdD rdS; rw [e]; simp only [Wi.sI_err h6, Wi.sU_err h6, Wi.sB_err 256 h6]; decide
  have e5 := sU_app (n := x.s) (by have := h.s; omega) h4
  have q5 : rdS y = Wi.sU (rdA y).1 := rfl
  rw [e4] at q5; dsimp only at q5
  rw [← q5] at e5
  rcases e5 with e | ⟨k5, h5, e5⟩
  · unfold rdD; rw [e]; simp only [Wi.sB_err 256 h6]; decide
  unfold rdD; rw [e5]
  exact sB_cutT h.n h5
/-- a sealed message that is cut -/
theorem cut_seal {l : List Nat} {n : Nat} (h : (∀ j, j < l.length → (rdK (l.take j)).2 = 1 ∧ Wi.sEnd (rdI (l.take j)).1 ≠ 0 ∨ (rdK (l.take j)).2 ≠ 1 ∧ Wi.sEnd (rdD (l.take j)).1 ≠ 0)) (hn : n < (Cr.seal_ l).length) : inert ((Cr.seal_ l).take n) := by
  have hl := Cr.seal_len l
  unfold inert
  by_cases h4 : ((Cr.seal_ l).take n).length < 4
  · left; rw [Cr.opened_short h4]; decide
  · by_cases hq : Cr.le4 (Cr.crc (((Cr.seal_ l).take n).take (((Cr.seal_ l).take n).length - 4))) = ((Cr.seal_ l).take n).drop (((Cr.seal_ l).take n).length - 4)
    · right
      rw [List.length_take] at h4
      refine ⟨l.take (n - 4), ?_, h _ (by omega)⟩
      rw [Cr.opened_yes (by rw [List.length_take]; omega) hq, List.length_take, List.take_take, Nat.min_eq_left (by omega : n ≤ (Cr.seal_ l).length), Nat.min_eq_left (by omega : n - 4 ≤ n)]
      congr 1
      unfold Cr.seal_
      rw [List.take_append_of_le_length (by omega)]
    · left; rw [Cr.opened_no h4 hq]; decide
/-- what becomes of a sealed message -/
theorem spoil_all {l : List Nat} {f : Li.Ft} (hl : ∀ c ∈ l, c < 256) (hlen : l.length ≤ 400) (h : (∀ j, j < l.length → (rdK (l.take j)).2 = 1 ∧ Wi.sEnd (rdI (l.take j)).1 ≠ 0 ∨ (rdK (l.take j)).2 ≠ 1 ∧ Wi.sEnd (rdD (l.take j)).1 ≠ 0)) (hf : f.k = 5 → inert f.fg) (hf8 : ∀ c ∈ f.fg, c < 256) (hf9 : f.fg.length ≤ 1000) :
    (Li.spoilL (Cr.seal_ l) f = Cr.seal_ l ∨ inert (Li.spoilL (Cr.seal_ l) f)) ∧ (∀ c ∈ Li.spoilL (Cr.seal_ l) f, c < 256) ∧ (Li.spoilL (Cr.seal_ l) f).length ≤ 1000 := by
  have hs := Cr.seal_lt hl
  have hn := Cr.seal_len l
  unfold Li.spoilL
  split
  · rename_i e; exact ⟨.inr (hf e), hf8, hf9⟩
  · split
    · refine ⟨?_, fun c hc => hs c (List.mem_of_mem_take hc), by rw [List.length_take]; omega⟩
      rcases Nat.lt_or_ge (max f.a 0).toNat (Cr.seal_ l).length with g | g
      · exact .inr (cut_seal h g)
      · exact .inl (List.take_of_length_le g)
    · split
      · rename_i e
        have hj : Li.gPlace (Cr.seal_ l).length f.a < (Cr.seal_ l).length := by
          unfold Li.gPlace
          have h5 : 0 ≤ f.a % ((Cr.seal_ l).length : Int) := Int.emod_nonneg _ (by omega)
          have h6 : f.a % ((Cr.seal_ l).length : Int) < (Cr.seal_ l).length := Int.emod_lt_of_pos _ (by omega)
          omega
        refine ⟨.inr (.inl (gar_open hl _ hj)), fun c hc => ?_, by rw [List.length_set]; omega⟩
        rcases List.mem_or_eq_of_mem_set hc with g | g
        · exact hs c g
        · rw [g]; omega
      · exact ⟨.inl rfl, hs, by omega⟩
theorem con_reads {i : Int} (hi : -9223372036854775808 ≤ i ∧ i ≤ 9223372036854775807) : (rdK (conL i)).2 = 1 ∧ (rdI (conL i)).2 = i ∧ Wi.sEnd (rdI (conL i)).1 = 0 := by
  have e0 : rdK (conL i) = ((0, Wi.encI i), 1) := Wi.sI_enc _ (by omega) (by omega)
  have e1 : rdI (conL i) = ((0, []), i) := by
    unfold rdI; rw [e0]
    have := Wi.sI_enc [] hi.1 hi.2
    rwa [List.append_nil] at this
  rw [e0, e1]; exact ⟨rfl, rfl, by simp [Wi.sEnd]⟩
end Go.Proofs.YtgfekgceeigdiaaDoor
namespace Go.Proofs.YtgfekgceeigdiaaDoor
open Go.RowKit
/-- one message, as it lies in the row and as the plain law sees it -/
def fRel (U : Nat → Bu) (N : Nat) (x : Li.Flt) (f : Fg) : Prop :=
  x.t = f.t ∧ f.to ≤ 2 ∧ x.g = node f.to ∧ (∀ c ∈ x.d, c < 256) ∧ x.d.length ≤ 1000 ∧
  match f.m with
  | .off i => i < N ∧ x.d = Cr.seal_ (offL (U i))
  | .con i => i < N ∧ x.d = Cr.seal_ (conL i)
  | .junk => inert x.d
structure UOk (U : Nat → Bu) (N : Nat) : Prop where
  id : ∀ i, (U i).i = i
  ok : ∀ i, i < N → (U i).ok
  n8 : N ≤ 8
  zf : ∀ i, (U i).f = 0
  zt : ∀ i, (U i).t = 0
def wt : Mg → Nat
  | .off _ => 4
  | _ => 1
def pot (l : List Fg) : Nat := (l.map (fun f => wt f.m)).sum
theorem pot_append (l m : List Fg) : pot (l ++ m) = pot l + pot m := by simp [pot]
theorem pot_cons (f : Fg) (l : List Fg) : pot (f :: l) = wt f.m + pot l := by simp [pot]
theorem wt_pos (m : Mg) : 1 ≤ wt m := by cases m <;> simp [wt]
theorem pot_len : ∀ (l : List Fg), l.length ≤ pot l
  | [] => Nat.zero_le _
  | f :: l => by have := pot_len l; have := wt_pos f.m; rw [pot_cons, List.length_cons]; omega
abbrev ZL := List (Li.Flt × Fg)
structure ZOk (U : Nat → Bu) (N : Nat) (zl : ZL) : Prop where
  rel : ∀ z ∈ zl, fRel U N z.1 z.2
  srt : zl.Pairwise (fun a b => a.1.t ≤ b.1.t)
theorem pot_insert {zl : ZL} {k : Nat} {z : Li.Flt × Fg} : pot ((zl.take k ++ z :: zl.drop k).map (·.2)) = pot (zl.map (·.2)) + wt z.2.m := by
  rw [List.map_append, List.map_cons, pot_append, pot_cons]
  have h : pot (zl.map (·.2)) = pot ((zl.take k).map (·.2)) + pot ((zl.drop k).map (·.2)) := by
    rw [← pot_append, ← List.map_append, List.take_append_drop]
  omega
theorem takeWhile_all {α : Type} {p : α → Bool} : ∀ {l : List α}, ∀ x ∈ l.take (l.takeWhile p).length, p x = true
  | [], x, h => by simp at h
  | y :: l, x, h => by
    by_cases hy : p y = true
    · rw [List.takeWhile_cons_of_pos hy, List.length_cons, List.take_succ_cons] at h
      rcases List.mem_cons.1 h with rfl | h
      · exact hy
      · exact takeWhile_all x h
    · rw [List.takeWhile_cons_of_neg hy] at h; simp at h
theorem drop_head {α : Type} {p : α → Bool} : ∀ {l : List α} {y : α} {m : List α}, l.drop (l.takeWhile p).length = y :: m → p y = false
  | [], y, m, h => by simp at h
  | x :: l, y, m, h => by
    by_cases hx : p x = true
    · rw [List.takeWhile_cons_of_pos hx, List.length_cons, List.drop_succ_cons] at h
      exact drop_head h
    · rw [List.takeWhile_cons_of_neg hx] at h
      simp at h
      obtain ⟨rfl, _⟩ := h
      simpa using hx
theorem putK_zip {zl : ZL} {x : Li.Flt} : Li.putK (zl.map (·.1)) x = (zl.takeWhile (fun z => Li.fBefore x z.1)).length := by
  unfold Li.putK
  induction zl with
  | nil => rfl
  | cons z l ih =>
    rw [List.map_cons]
    by_cases h : Li.fBefore x z.1 = true
    · rw [List.takeWhile_cons_of_pos h, List.takeWhile_cons_of_pos (p := fun z : Li.Flt × Fg => Li.fBefore x z.1) h, List.length_cons, List.length_cons, ih]
    · rw [List.takeWhile_cons_of_neg h, List.takeWhile_cons_of_neg (p := fun z : Li.Flt × Fg => Li.fBefore x z.1) h]; rfl
/-- one message more -/
theorem put_one {U : Nat → Bu} {N : Nat} {zl : ZL} {x : Li.Flt} {f : Fg} (h : ZOk U N zl) (hx : fRel U N x f) :
    ∃ zl', Li.putL (zl.map (·.1)) x = zl'.map (·.1) ∧ ZOk U N zl' ∧ (∀ z, z ∈ zl' ↔ z = (x, f) ∨ z ∈ zl) ∧ pot (zl'.map (·.2)) = pot (zl.map (·.2)) + wt f.m := by
  obtain ⟨k, hk⟩ : ∃ k, (zl.takeWhile (fun z => Li.fBefore x z.1)).length = k := ⟨_, rfl⟩
  have hmem : ∀ z, z ∈ zl.take k ++ (x, f) :: zl.drop k ↔ z = (x, f) ∨ z ∈ zl := fun z => by
    conv => rhs; rw [← List.take_append_drop k zl]
    simp only [List.mem_append, List.mem_cons]
    constructor
    · rintro (h | h | h)
      · exact .inr (.inl h)
      · exact .inl h
      · exact .inr (.inr h)
    · rintro (h | h | h)
      · exact .inr (.inl h)
      · exact .inl h
      · exact .inr (.inr h)
  refine ⟨zl.take k ++ (x, f) :: zl.drop k, ?_, ⟨fun z hz => ?_, ?_⟩, hmem, pot_insert⟩
  · unfold Li.putL
    rw [putK_zip, hk]
    simp [List.map_take, List.map_drop]
  · rcases (hmem z).1 hz with rfl | hz
    · exact hx
    · exact h.rel z hz
  · have hs := h.srt
    rw [← List.take_append_drop k zl] at hs
    obtain ⟨s1, s2, s3⟩ := List.pairwise_append.1 hs
    have g1 : ∀ a ∈ zl.take k, a.1.t ≤ x.t := fun a ha => by
      rw [← hk] at ha
      have := takeWhile_all a ha
      simp only [Li.fBefore, Bool.or_eq_true, Bool.and_eq_true, decide_eq_true_eq, beq_iff_eq] at this
      omega
    have g2 : ∀ b ∈ zl.drop k, x.t ≤ b.1.t := fun b hb => by
      cases hd : zl.drop k with
      | nil => rw [hd] at hb; cases hb
      | cons y m =>
        have hy : x.t ≤ y.1.t := by
          rw [← hk] at hd
          have := drop_head hd
          simp only [Li.fBefore, Bool.or_eq_false_iff, Bool.and_eq_false_iff, decide_eq_false_iff_not, beq_eq_false_iff_ne] at this
          omega
        rw [hd] at hb s2
        rcases List.mem_cons.1 hb with rfl | hb
        · exact hy
        · have := (List.pairwise_cons.1 s2).1 b hb; omega
    refine List.pairwise_append.2 ⟨s1, List.pairwise_cons.2 ⟨g2, s2⟩, fun a ha b hb => ?_⟩
    rcases List.mem_cons.1 hb with rfl | hb
    · exact g1 a ha
    · exact s3 a ha b hb
/-- all the copies of a message that is sent -/
theorem put_all {U : Nat → Bu} {N : Nat} {f : Li.Ft} {cn : Nat} {tick : Int} {fr : Int} {tq : Nat} {l : List Nat} {m : Mg} (hto : tq ≤ 2)
    (hm : ∀ x : Li.Flt, ∀ t n, x.t = t → x.g = node tq → (∀ c ∈ x.d, c < 256) → x.d.length ≤ 1000 → x.d = Cr.seal_ l → fRel U N x ⟨t, n, tq, m⟩)
    (hsp : (Li.spoilL (Cr.seal_ l) f = Cr.seal_ l ∨ inert (Li.spoilL (Cr.seal_ l) f)) ∧ (∀ c ∈ Li.spoilL (Cr.seal_ l) f, c < 256) ∧ (Li.spoilL (Cr.seal_ l) f).length ≤ 1000) :
    ∀ (ds : List Int) (zl : ZL), ZOk U N zl → (∀ d ∈ ds, 0 ≤ d) →
      ∃ zl', Li.sentL (zl.map (·.1)) f cn tick fr (node tq) (Cr.seal_ l) ds = zl'.map (·.1) ∧ ZOk U N zl' ∧ (∀ z ∈ zl, z ∈ zl') ∧ (∀ z ∈ zl', z ∈ zl ∨ (tick + 1 ≤ z.2.t ∧ z.2.to = tq ∧ (z.2.m = m ∨ z.2.m = .junk))) ∧ pot (zl'.map (·.2)) ≤ pot (zl.map (·.2)) + ds.length * wt m ∧
        (Li.spoilL (Cr.seal_ l) f = Cr.seal_ l → ∀ d ∈ ds, ∃ z ∈ zl', z.2.t = tick + 1 + d ∧ z.2.to = tq ∧ z.2.m = m) := by
  intro ds
  induction ds with
  | nil => intro zl hz _; exact ⟨zl, rfl, hz, fun _ h => h, fun _ h => .inl h, by simp, fun _ d hd => by cases hd⟩
  | cons d ds ih =>
    intro zl hz hd
    have h0 := hd d (List.mem_cons_self ..)
    obtain ⟨mm, hmm, hmw, hsame, hfr⟩ : ∃ mm, (mm = m ∨ mm = Mg.junk) ∧ wt mm ≤ wt m ∧ (Li.spoilL (Cr.seal_ l) f = Cr.seal_ l → mm = m) ∧ fRel U N (Li.flight f cn tick fr (node tq) (Cr.seal_ l) d) ⟨tick + 1 + d, cn, tq, mm⟩ := by
      by_cases e : Li.spoilL (Cr.seal_ l) f = Cr.seal_ l
      · exact ⟨m, .inl rfl, Nat.le_refl _, fun _ => rfl, hm _ _ _ rfl rfl hsp.2.1 hsp.2.2 e⟩
      · exact ⟨.junk, .inr rfl, wt_pos m, fun h => absurd h e, rfl, hto, rfl, hsp.2.1, hsp.2.2, hsp.1.resolve_left e⟩
    obtain ⟨z1, e1, k1, k2, k3⟩ := put_one hz hfr
    obtain ⟨z2, e2, g1, g2, g3, g4, g5⟩ := ih z1 k1 (fun d' hd' => hd d' (List.mem_cons_of_mem _ hd'))
    refine ⟨z2, ?_, g1, fun z h => g2 z ((k2 z).2 (.inr h)), fun z h => ?_, ?_, fun e d' hd' => ?_⟩
    · unfold Li.sentL at e2 ⊢; rw [List.foldl_cons, e1]; exact e2
    · rcases g3 z h with h | h
      · rcases (k2 z).1 h with rfl | h
        · exact .inr ⟨by show tick + 1 ≤ tick + 1 + d; omega, rfl, hmm⟩
        · exact .inl h
      · exact .inr h
    · rw [k3] at g4
      rw [List.length_cons, Nat.add_mul]
      have : wt (Fg.mk (tick + 1 + d) cn tq mm).m = wt mm := rfl
      omega
    · rcases List.mem_cons.1 hd' with rfl | hd'
      · exact ⟨_, g2 _ ((k2 _).2 (.inl rfl)), rfl, rfl, hsame e⟩
      · exact g5 e d' hd'
def ksOf (fts : List Li.Ft) : List Nat := fts.map (fun f => f.m.toNat)
structure FtsOk (fts : List Li.Ft) : Prop where
  len : fts.length ≤ 40
  b : ∀ f ∈ fts, ∀ c ∈ f.fg, c < 256
  l : ∀ f ∈ fts, f.fg.length ≤ 1000
  i : ∀ f ∈ fts, f.k = 5 → inert f.fg
theorem fate_mem {fts : List Li.Ft} {c : Int} : Li.fateL fts c ∈ fts ∨ Li.fateL fts c = Li.Ft.nil := by
  unfold Li.fateL
  cases h : fts.find? (fun x => x.m == c) with
  | none => exact .inr rfl
  | some x => exact .inl (List.mem_of_find?_eq_some h)
theorem fate_none {fts : List Li.Ft} {c : Nat} (h : c ∉ ksOf fts) : Li.fateL fts c = Li.Ft.nil := by
  unfold Li.fateL
  have : fts.find? (fun x => x.m == (c : Int)) = none := by
    rw [List.find?_eq_none]
    intro x hx hc
    have e : x.m = (c : Int) := by simpa using hc
    exact h (List.mem_map.2 ⟨x, hx, by rw [e]; rfl⟩)
  rw [this]; rfl
def nbr (fr tq : Nat) : Prop := (fr = 0 ∧ tq = 1) ∨ (fr = 1 ∧ tq = 0) ∨ (fr = 1 ∧ tq = 2) ∨ (fr = 2 ∧ tq = 1)
theorem win_nbr {fr tq : Nat} {T : Nat} (h : nbr fr tq) (hT : T < 1000) : ∃ x, Li.winW wideW (node fr) (node tq) T = some x ∧ x.r = 1000 := by
  have hT2 : (T : Int) < 1000 := by omega
  have h02 : (0 : Int) ≤ T := by omega
  have m1 : min (0 : Int) 1 = 0 := by decide
  have m2 : min (1 : Int) 0 = 0 := by decide
  have m3 : max (0 : Int) 1 = 1 := by decide
  have m4 : max (1 : Int) 0 = 1 := by decide
  have m5 : min (1 : Int) 12 = 1 := by decide
  have m6 : min (12 : Int) 1 = 1 := by decide
  have m7 : max (1 : Int) 12 = 12 := by decide
  have m8 : max (12 : Int) 1 = 12 := by decide
  rcases h with ⟨rfl, rfl⟩ | ⟨rfl, rfl⟩ | ⟨rfl, rfl⟩ | ⟨rfl, rfl⟩
  all_goals
    simp [Li.winW, node, wideW, Li.atW, Li.nextW, Li.Win.key, m1, m2, m3, m4, m5, m6, m7, m8, hT2, h02]
theorem sent_all {U : Nat → Bu} {N : Nat} {fts : List Li.Ft} (hF : FtsOk fts) {fr tq T : Nat} (hn : nbr fr tq) (hT : T < 1000) {l : List Nat} {m : Mg} (hl : ∀ c ∈ l, c < 256) (hlen : l.length ≤ 400)
    (hcut : (∀ j, j < l.length → (rdK (l.take j)).2 = 1 ∧ Wi.sEnd (rdI (l.take j)).1 ≠ 0 ∨ (rdK (l.take j)).2 ≠ 1 ∧ Wi.sEnd (rdD (l.take j)).1 ≠ 0))
    (hm : ∀ x : Li.Flt, ∀ t n, x.t = t → x.g = node tq → (∀ c ∈ x.d, c < 256) → x.d.length ≤ 1000 → x.d = Cr.seal_ l → fRel U N x ⟨t, n, tq, m⟩)
    {zl : ZL} (hz : ZOk U N zl) {r : Rl} (hr : r.fl = zl.map (·.2)) :
    ∃ zl' b, Li.sendL (zl.map (·.1)) (r.cn : Int) wideW fts T (node fr) (node tq) (Cr.seal_ l) = (zl'.map (·.1), ((r.cn + 1 : Nat) : Int), b) ∧ ZOk U N zl' ∧ Sent (fun c => c ∈ ksOf fts) T tq m r { r with fl := zl'.map (·.2), cn := r.cn + 1 } ∧
      pot (zl'.map (·.2)) ≤ pot r.fl + 2 * wt m := by
  have hto : tq ≤ 2 := by unfold nbr at hn; omega
  obtain ⟨x, hx, hxr⟩ := win_nbr hn hT
  have hsl := Cr.seal_len l
  have hsp : ∀ f : Li.Ft, f ∈ fts ∨ f = Li.Ft.nil → (Li.spoilL (Cr.seal_ l) f = Cr.seal_ l ∨ inert (Li.spoilL (Cr.seal_ l) f)) ∧ (∀ c ∈ Li.spoilL (Cr.seal_ l) f, c < 256) ∧ (Li.spoilL (Cr.seal_ l) f).length ≤ 1000 := fun f hf => by
    refine spoil_all hl hlen hcut (fun h5 => ?_) (fun c hc => ?_) ?_
    · rcases hf with hf | rfl
      · exact hF.i f hf h5
      · exact absurd h5 (by decide)
    · rcases hf with hf | rfl
      · exact hF.b f hf c hc
      · cases hc
    · rcases hf with hf | rfl
      · exact hF.l f hf
      · exact Nat.zero_le _
  have hdl := Li.delays_ok (Li.fateL fts r.cn)
  obtain ⟨zl', e1, k1, k2, k3, k4, k5⟩ := put_all (U := U) (N := N) (f := Li.fateL fts r.cn) (cn := r.cn) (tick := T) (fr := node fr) hto hm (hsp _ fate_mem) (Li.delays (Li.fateL fts r.cn)) zl hz (fun d hd => (hdl.2 d hd).1)
  refine ⟨zl', true, ?_, k1, ⟨rfl, rfl, rfl, rfl, fun f hf => ?_, fun f hf => ?_, fun hk => ?_⟩, ?_⟩
  · unfold Li.sendL
    rw [hx]
    unfold Li.sendR
    simp only []
    rw [if_neg (by rw [hxr, hsl]; omega), e1]
    rfl
  · rw [hr] at hf
    obtain ⟨z, hz1, rfl⟩ := List.mem_map.1 hf
    exact List.mem_map.2 ⟨z, k2 z hz1, rfl⟩
  · obtain ⟨z, hz1, rfl⟩ := List.mem_map.1 hf
    rcases k3 z hz1 with h | h
    · left; rw [hr]; exact List.mem_map.2 ⟨z, h, rfl⟩
    · exact .inr h
  · have e := fate_none hk
    rw [e] at k5
    obtain ⟨z, g1, g2, g3, g4⟩ := k5 rfl 0 (by simp [Li.delays, Li.dl0, Li.Ft.nil]; omega)
    exact ⟨z.2, List.mem_map.2 ⟨z, g1, rfl⟩, by rw [g2]; omega, g3, g4⟩
  · rw [hr]
    have : (Li.delays (Li.fateL fts r.cn)).length * wt m ≤ 2 * wt m := Nat.mul_le_mul_right _ hdl.1
    omega
/-- lists of numbers -/
def ci (l : List Nat) : List Int := l.map (fun (i : Nat) => (i : Int))
theorem ci_mem {l : List Nat} {i : Nat} : (i : Int) ∈ ci l ↔ i ∈ l := by
  unfold ci
  rw [List.mem_map]
  constructor
  · rintro ⟨a, h, e⟩; have : a = i := by omega
    subst this; exact h
  · intro h; exact ⟨i, h, rfl⟩
theorem ci_srt {l : List Nat} (h : l.Pairwise (· < ·)) : (ci l).Pairwise (· < ·) := by
  unfold ci; rw [List.pairwise_map]; exact h.imp (fun h => by omega)
theorem ci_erase {i : Nat} : ∀ {l : List Nat}, (ci l).erase (i : Int) = ci (l.erase i)
  | [] => rfl
  | x :: l => by
    by_cases h : x = i
    · subst h; simp [ci]
    · have h1 : ¬ ((x : Int) == (i : Int)) = true := by simp; omega
      have h2 : ¬ (x == i) = true := by simpa using h
      have ih := ci_erase (i := i) (l := l)
      unfold ci at *
      rw [List.map_cons, List.erase_cons_tail h1, List.erase_cons_tail h2, List.map_cons, ih]
theorem ci_ins {i : Nat} : ∀ {l : List Nat}, l.Pairwise (· < ·) → i ∉ l → insI (ci l) i = ci (insS l i)
  | [], _, _ => rfl
  | x :: l, hs, hn => by
    obtain ⟨s1, s2⟩ := List.pairwise_cons.1 hs
    simp only [List.mem_cons, not_or] at hn
    have ih := ci_ins (i := i) (l := l) s2 hn.2
    unfold insS
    by_cases h : i < x
    · rw [if_pos h]
      have e : posI (ci (x :: l)) i = 0 := by
        unfold posI ci
        rw [List.countP_eq_zero]
        intro a ha
        obtain ⟨b, hb, rfl⟩ := List.mem_map.1 ha
        rcases List.mem_cons.1 hb with rfl | hb
        · simp; omega
        · have := s1 b hb; simp; omega
      unfold insI; rw [e]; simp [ci]
    · rw [if_neg h, if_neg (by omega)]
      have e : posI (ci (x :: l)) i = posI (ci l) i + 1 := by
        unfold posI ci
        rw [List.map_cons, List.countP_cons_of_pos (by simp; omega)]
      have e2 : ci (x :: l) = (x : Int) :: ci l := rfl
      unfold insI at ih ⊢
      rw [e, e2, List.take_succ_cons, List.drop_succ_cons, List.cons_append, ih]
      rfl
theorem erase_at {i : Nat} : ∀ {l : List Nat} {k : Nat}, l.Nodup → l[k]? = some i → l.eraseIdx k = l.erase i
  | [], k, _, h => by simp at h
  | x :: l, 0, _, h => by simp at h; subst h; simp
  | x :: l, k + 1, hn, h => by
    obtain ⟨n1, n2⟩ := List.nodup_cons.1 hn
    have h' : l[k]? = some i := by simpa using h
    have hne : ¬ (x == i) = true := by
      intro e; have e : x = i := by simpa using e
      subst e; exact n1 (List.mem_of_getElem? h')
    rw [List.eraseIdx_cons_succ, List.erase_cons_tail hne, erase_at n2 h']
theorem sto_len {s : Sto} {N : Nat} (h : s.ok N) : s.bs.length ≤ N := by
  have h1 := nodup_le (ks := List.range N) h.nd (fun x hx => List.mem_range.2 (h.lt x (h.sub x hx)))
  rwa [List.length_range] at h1
theorem next_map {U : Nat → Bu} {N : Nat} (hU : UOk U N) (s : Sto) : nextB (s.bs.map U) (ci s.ps) = (nextS s).map U := by
  unfold nextB nextS
  rw [List.find?_map]
  congr 1
  congr 1
  funext i
  show (!((ci s.ps).contains (U i).i)) = !(s.ps.contains i)
  rw [hU.id]
  congr 1
  rw [Bool.eq_iff_iff, List.contains_iff_mem, List.contains_iff_mem]
  exact ci_mem
end Go.Proofs.YtgfekgceeigdiaaDoor
namespace Go.Proofs.YtgfekgceeigdiaaDoor
open Go.RowKit
def StV (U : Nat → Bu) (N p : Nat) (w : World) (s : Sto) (v1 v2 v3 : Value) : Prop := ∃ a1 c1 a2 c2 a3 c3, v1 = .slice a1 (s.bs.map U).length c1 ∧ v2 = .slice a2 (ci s.ps).length c2 ∧ v3 = .slice a3 (ci s.sn).length c3 ∧
  Bus (fun b => b ≠ p) w v1 (s.bs.map U) ∧ Sl (fun b => b ≠ p) w v2 (i64s (ci s.ps)) ∧ Sl (fun b => b ≠ p) w v3 (i64s (ci s.sn)) ∧ ∀ i ∈ s.ps, i < N
theorem StV.keep {U : Nat → Bu} {N p : Nat} {w w' : World} {s : Sto} {v1 v2 v3 : Value} (h : StV U N p w s v1 v2 v3) (hk : Keeps (fun b => b = p) w w') : StV U N p w' s v1 v2 v3 := by
  obtain ⟨a1, c1, a2, c2, a3, c3, e1, e2, e3, h1, h2, h3, h4⟩ := h
  exact ⟨a1, c1, a2, c2, a3, c3, e1, e2, e3, h1.keep hk (fun b _ h => h), h2.keep hk (fun b _ h => h), h3.keep hk (fun b _ h => h), h4⟩
structure RelC (U : Nat → Bu) (N : Nat) (fts : List Li.Ft) (p : Nat) (w : World) (r : Rl) (zl : ZL) (va : Option Addr) (vc : Nat) (fa : Option Addr) (fc : Nat) (x1 x2 x3 y1 y2 y3 z1 z2 z3 : Value) : Prop where
  fl : r.fl = zl.map (·.2)
  z : ZOk U N zl
  B : Blk w p #[.int .i64 10000, x1, x2, x3, .int .i64 10000, y1, y2, y3, .int .i64 10000, z1, z2, z3, .slice va (zl.map (·.1)).length vc, .int .i64 (r.cn : Int), .slice fa fts.length fc] 50
  s0 : StV U N p w r.s0 x1 x2 x3
  s1 : StV U N p w r.s1 y1 y2 y3
  s2 : StV U N p w r.s2 z1 z2 z3
  vf : Li.Fls (fun b => b ≠ p) w (.slice va (zl.map (·.1)).length vc) (zl.map (·.1))
  ft : Li.Fts (fun b => b ≠ p) w (.slice fa fts.length fc) fts
  nib : Cr.Nib w
  pos : 0 < p
def RelW (U : Nat → Bu) (N : Nat) (fts : List Li.Ft) (p : Nat) (w : World) (r : Rl) : Prop := ∃ zl va vc fa fc x1 x2 x3 y1 y2 y3 z1 z2 z3, RelC U N fts p w r zl va vc fa fc x1 x2 x3 y1 y2 y3 z1 z2 z3
theorem Li.Fts.keepT {K S : Nat → Prop} {w w' : World} {v : Value} {l : List Li.Ft} (h : Li.Fts K w v l) (hk : Keeps S w w') (hd : ∀ b, b < w.heap.size → K b → ¬ S b) : Li.Fts K w' v l := Li.Fls.keep h hk hd
theorem RelC.keep {U : Nat → Bu} {N : Nat} {fts : List Li.Ft} {p : Nat} {w w' : World} {r : Rl} {zl : ZL} {va : Option Addr} {vc : Nat} {fa : Option Addr} {fc : Nat} {x1 x2 x3 y1 y2 y3 z1 z2 z3 : Value}
    (h : RelC U N fts p w r zl va vc fa fc x1 x2 x3 y1 y2 y3 z1 z2 z3) (hk : Keeps (fun _ => False) w w') : RelC U N fts p w' r zl va vc fa fc x1 x2 x3 y1 y2 y3 z1 z2 z3 := by
  have hk2 : Keeps (fun b => b = p) w w' := hk.mono (fun _ _ h => h.elim)
  exact ⟨h.fl, h.z, blk_keep h.B hk (fun h => h), h.s0.keep hk2, h.s1.keep hk2, h.s2.keep hk2, h.vf.keep hk (fun _ _ _ h => h), Li.Fts.keepT h.ft hk (fun _ _ _ h => h), h.nib.keep hk (fun h => h), h.pos⟩
theorem RelW.keep {U : Nat → Bu} {N : Nat} {fts : List Li.Ft} {p : Nat} {w w' : World} {r : Rl} (h : RelW U N fts p w r) (hk : Keeps (fun _ => False) w w') : RelW U N fts p w' r := by
  obtain ⟨zl, va, vc, fa, fc, x1, x2, x3, y1, y2, y3, z1, z2, z3, h⟩ := h
  exact ⟨zl, va, vc, fa, fc, x1, x2, x3, y1, y2, y3, z1, z2, z3, h.keep hk⟩
theorem RelW.nib {U : Nat → Bu} {N : Nat} {fts : List Li.Ft} {p : Nat} {w : World} {r : Rl} (h : RelW U N fts p w r) : Cr.Nib w := by
  obtain ⟨_, _, _, _, _, _, _, _, _, _, _, _, _, _, h⟩ := h; exact h.nib
theorem RelW.lt {U : Nat → Bu} {N : Nat} {fts : List Li.Ft} {p : Nat} {w : World} {r : Rl} (h : RelW U N fts p w r) : p < w.heap.size := by
  obtain ⟨_, _, _, _, _, _, _, _, _, _, _, _, _, _, h⟩ := h; exact blk_lt h.B
theorem RelW.free {U : Nat → Bu} {N : Nat} {fts : List Li.Ft} {p : Nat} {w : World} {r : Rl} (h : RelW U N fts p w r) (j : Nat) : w.frozen? ⟨p, j, none⟩ = false := by
  obtain ⟨_, _, _, _, _, _, _, _, _, _, _, _, _, _, h⟩ := h; exact blk_free h.B j
def set4 (W : World) (p k : Nat) (u1 u2 u3 : Value) : World := (((W.setCell ⟨p, k * 4, none⟩ (.int .i64 10000)).setCell ⟨p, k * 4 + 1, none⟩ u1).setCell ⟨p, k * 4 + 2, none⟩ u2).setCell ⟨p, k * 4 + 3, none⟩ u3
theorem set4_keeps (W : World) (p k : Nat) (u1 u2 u3 : Value) : Keeps (fun b => b = p) W (set4 W p k u1 u2 u3) :=
  ((((Keeps.refl (fun b => b = p) W).setCell (p := ⟨p, k * 4, none⟩) (.inl rfl) _).setCell (p := ⟨p, k * 4 + 1, none⟩) (.inl rfl) _).setCell (p := ⟨p, k * 4 + 2, none⟩) (.inl rfl) _).setCell (p := ⟨p, k * 4 + 3, none⟩) (.inl rfl) _
theorem RelW.at_ {U : Nat → Bu} {N : Nat} {fts : List Li.Ft} {p : Nat} {w : World} {r : Rl} (h : RelW U N fts p w r) {k : Nat} (hk : k ≤ 2) :
    ∃ v1 v2 v3, w.cell? ⟨p, k * 4, none⟩ = some (.int .i64 10000) ∧ w.cell? ⟨p, k * 4 + 1, none⟩ = some v1 ∧ w.cell? ⟨p, k * 4 + 2, none⟩ = some v2 ∧ w.cell? ⟨p, k * 4 + 3, none⟩ = some v3 ∧ StV U N p w (r.s k) v1 v2 v3 ∧
      ∀ (W : World) (s' : Sto) (u1 u2 u3 : Value), Keeps (fun _ => False) w W → StV U N p W s' u1 u2 u3 → RelW U N fts p (set4 W p k u1 u2 u3) (r.put k s') := by
  obtain ⟨zl, va, vc, fa, fc, x1, x2, x3, y1, y2, y3, z1, z2, z3, h⟩ := h
  have hB := h.B
  rcases (by omega : k = 0 ∨ k = 1 ∨ k = 2) with rfl | rfl | rfl
  · refine ⟨x1, x2, x3, blk_cell hB 0, blk_cell hB 1, blk_cell hB 2, blk_cell hB 3, h.s0, fun W s' u1 u2 u3 hK hs => ?_⟩
    have g := h.keep hK
    have ks := set4_keeps W p 0 u1 u2 u3
    exact ⟨zl, va, vc, fa, fc, u1, u2, u3, y1, y2, y3, z1, z2, z3, g.fl, g.z, blk_set (blk_set (blk_set (blk_set g.B 0 _) 1 _) 2 _) 3 _, hs.keep ks, g.s1.keep ks, g.s2.keep ks, g.vf.keep ks (fun _ _ h => h), Li.Fts.keepT g.ft ks (fun _ _ h => h), g.nib.keep ks (fun e => by have := g.pos; omega), g.pos⟩
  · refine ⟨y1, y2, y3, blk_cell hB 4, blk_cell hB 5, blk_cell hB 6, blk_cell hB 7, h.s1, fun W s' u1 u2 u3 hK hs => ?_⟩
    have g := h.keep hK
    have ks := set4_keeps W p 1 u1 u2 u3
    exact ⟨zl, va, vc, fa, fc, x1, x2, x3, u1, u2, u3, z1, z2, z3, g.fl, g.z, blk_set (blk_set (blk_set (blk_set g.B 4 _) 5 _) 6 _) 7 _, g.s0.keep ks, hs.keep ks, g.s2.keep ks, g.vf.keep ks (fun _ _ h => h), Li.Fts.keepT g.ft ks (fun _ _ h => h), g.nib.keep ks (fun e => by have := g.pos; omega), g.pos⟩
  · refine ⟨z1, z2, z3, blk_cell hB 8, blk_cell hB 9, blk_cell hB 10, blk_cell hB 11, h.s2, fun W s' u1 u2 u3 hK hs => ?_⟩
    have g := h.keep hK
    have ks := set4_keeps W p 2 u1 u2 u3
    exact ⟨zl, va, vc, fa, fc, x1, x2, x3, y1, y2, y3, u1, u2, u3, g.fl, g.z, blk_set (blk_set (blk_set (blk_set g.B 8 _) 9 _) 10 _) 11 _, g.s0.keep ks, g.s1.keep ks, hs.keep ks, g.vf.keep ks (fun _ _ h => h), Li.Fts.keepT g.ft ks (fun _ _ h => h), g.nib.keep ks (fun e => by have := g.pos; omega), g.pos⟩
theorem zok_len {U : Nat → Bu} {N : Nat} {zl : ZL} (h : ZOk U N zl) : ∀ x ∈ zl.map (·.1), x.d.length ≤ 1000 := fun x hx => by
  obtain ⟨z, hz, rfl⟩ := List.mem_map.1 hx
  exact (h.rel z hz).2.2.2.2.1
/-- send -/
theorem send_all {U : Nat → Bu} {N : Nat} {fts : List Li.Ft} (hF : FtsOk fts) {p : Nat} {w : World} {r : Rl} (hR : RelW U N fts p w r) {fr tq T : Nat} (hn : nbr fr tq) (hT : T < 1000) {l : List Nat} {m : Mg} (hl : ∀ c ∈ l, c < 256) (hlen : l.length ≤ 400)
    (hcut : (∀ j, j < l.length → (rdK (l.take j)).2 = 1 ∧ Wi.sEnd (rdI (l.take j)).1 ≠ 0 ∨ (rdK (l.take j)).2 ≠ 1 ∧ Wi.sEnd (rdD (l.take j)).1 ≠ 0))
    (hm : ∀ x : Li.Flt, ∀ t n, x.t = t → x.g = node tq → (∀ c ∈ x.d, c < 256) → x.d.length ≤ 1000 → x.d = Cr.seal_ l → fRel U N x ⟨t, n, tq, m⟩)
    (hcap : pot r.fl + r.cn ≤ 100000) (vt : Int) (hvt : vt = tq) (ad : Option Addr) (cd : Nat) (hd : Sl (fun _ => True) w (.slice ad l.length cd) (u8s l)) :
    Calls Tryd.prog 35 #[.pointer (some ⟨p, 0, none⟩), .int .i64 (T : Nat), .int .i64 (fr : Nat), .int .i64 vt, .slice ad l.length cd] w fun e w' => e = .returned (.tuple #[]) ∧
      ∃ r', Sent (fun c => c ∈ ksOf fts) T tq m r r' ∧ RelW U N fts p w' r' ∧ pot r'.fl + r'.cn ≤ pot r.fl + r.cn + (2 * wt m + 1) ∧ Keeps (fun b => b = p) w w' := by
  subst hvt
  obtain ⟨zl, va, vc, fa, fc, x1, x2, x3, y1, y2, y3, z1, z2, z3, h⟩ := hR
  obtain ⟨zl', b, hR, k1, k2, k3⟩ := sent_all hF hn hT hl hlen hcut hm h.z h.fl
  have hlz : (zl.map (·.1)).length ≤ 100000 := by
    have := pot_len r.fl
    rw [h.fl, List.length_map] at this
    rw [List.length_map]; rw [h.fl] at hcap; omega
  have hc := send_any p (.int .i64 10000) x1 x2 x3 (.int .i64 10000) y1 y2 y3 (.int .i64 10000) z1 z2 z3 va fa vc fc (r.cn : Int) (T : Nat) (fr : Nat) (tq : Nat) (zl.map (·.1)) fts ad cd l w h.nib h.B
    (h.vf.mono (fun _ _ _ => trivial)) (Li.Fls.mono (K' := fun _ => True) h.ft (fun _ _ _ => trivial)) hd hl (by omega) (by omega) (fun x hx => by have := zok_len h.z x hx; omega) (by have := hF.len; omega) (fun x hx => by have := hF.l x hx; omega)
    (by unfold nbr at hn; omega) (by unfold nbr at hn; omega) (by omega) (by omega) _ hR
  refine hc.mono ?_
  rintro e w' ⟨rfl, a, c, hB, hfl, hk⟩
  refine ⟨rfl, _, k2, ?_, ?_, hk⟩
  · have hs := blk_lt h.B
    exact ⟨zl', a, c, fa, fc, x1, x2, x3, y1, y2, y3, z1, z2, z3, rfl, k1, hB, h.s0.keep hk, h.s1.keep hk, h.s2.keep hk, hfl.mono (fun b _ hb e => by subst e; omega), Li.Fts.keepT h.ft hk (fun _ _ h => h), h.nib.keep hk (fun e => by have := h.pos; omega), h.pos⟩
  · show pot (zl'.map (·.2)) + (r.cn + 1) ≤ _
    omega
theorem stv_bounds {U : Nat → Bu} {N : Nat} (hU : UOk U N) {s : Sto} (hs : s.ok N) (hp : ∀ i ∈ s.ps, i < N) : (s.bs.map U).length ≤ 8 ∧ (ci s.ps).length ≤ 8 ∧ (ci s.sn).length ≤ 8 ∧ ∀ x ∈ s.bs.map U, x.d.length ≤ 256 := by
  have h1 := sto_len hs
  have h2 := hs.len
  have h3 := nodup_le (ks := List.range N) (hs.srp.imp (fun h => by omega) : s.ps.Nodup) (fun x hx => List.mem_range.2 (hp x hx))
  have h8 := hU.n8
  rw [List.length_range] at h3
  refine ⟨by rw [List.length_map]; omega, by unfold ci; rw [List.length_map]; omega, by unfold ci; rw [List.length_map]; omega, fun x hx => ?_⟩
  obtain ⟨i, hi, rfl⟩ := List.mem_map.1 hx
  exact (hU.ok i (hs.lt i (hs.sub i hi))).n
theorem used_small : ∀ {l : List Bu}, (∀ x ∈ l, x.d.length ≤ 256) → usedL l ≤ 272 * l.length
  | [], _ => by simp [usedL]
  | x :: l, h => by
    have ih := used_small (l := l) (fun y hy => h y (List.mem_cons_of_mem _ hy))
    have hx := h x (List.mem_cons_self ..)
    unfold usedL at *
    rw [List.map_cons, List.sum_cons, List.length_cons]; omega
theorem UOk.int {U : Nat → Bu} {N : Nat} (hU : UOk U N) {i : Nat} (hi : i < N) : -9223372036854775808 ≤ (i : Int) ∧ (i : Int) ≤ 9223372036854775807 := by have := hU.n8; omega
theorem rl_ok {N : Nat} {r : Rl} (h : TInvR N r) (k : Nat) : (r.s k).ok N := by
  unfold Rl.s; split
  · exact h.k0
  · exact h.k1
  · exact h.k2
theorem eraseIdx_mapT {α β : Type} (f : α → β) : ∀ (l : List α) (k : Nat), (l.map f).eraseIdx k = (l.eraseIdx k).map f
  | [], k => by simp
  | x :: l, 0 => by simp
  | x :: l, k + 1 => by simp [eraseIdx_mapT f l k]
/-- a confirmation -/
theorem arr_con {U : Nat → Bu} {N : Nat} {fts : List Li.Ft} (hU : UOk U N) {p : Nat} {w : World} {r : Rl} (hR : RelW U N fts p w r) (hI : TInvR N r) {k i T : Nat} (hk : k ≤ 2) (hi : i < N) {d : List Nat} (hdd : d = Cr.seal_ (conL i))
    (ad : Option Addr) (cd : Nat) (hd : Sl (fun b => b ≠ p) w (.slice ad d.length cd) (u8s d)) :
    Calls Tryd.prog 31 #[.pointer (some ⟨p, 0, none⟩), .int .i64 (T : Nat), .int .i64 (k : Nat), .slice ad d.length cd] w fun e w' => e = .returned (.tuple #[]) ∧
      RelW U N fts p w' (r.put k (conS (r.s k) i)) ∧ Keeps (fun b => b = p) w w' := by
  have hii := hU.int hi
  have hl := conL_lt i
  have hlen := conL_len hii
  have h8 : ∀ c ∈ d, c < 256 := by rw [hdd]; exact Cr.seal_lt hl
  have hdl : d.length ≤ 100000 := by rw [hdd, Cr.seal_len]; omega
  have hop : Cr.opened d = (conL i, 0) := by rw [hdd]; exact Cr.opened_seal _
  obtain ⟨r0, r1, r2⟩ := con_reads hii
  obtain ⟨v1, v2, v3, c0, c1, c2, c3, ⟨a1, d1, a2, d2, a3, d3, rfl, rfl, rfl, g1, g2, g3, g4⟩, hset⟩ := hR.at_ hk
  have hs := rl_ok hI k
  obtain ⟨b1, b2, b3, b4⟩ := stv_bounds hU hs g4
  have tr : ∀ b, b < w.heap.size → b ≠ p → True := fun _ _ _ => trivial
  by_cases hin : i ∈ (r.s k).bs
  · have hc := arrive_con_yes p k (T : Nat) ad cd d (conL i) w hR.nib (hd.mono (K' := fun _ => True) tr) h8 hdl hop a1 a2 a3 d1 d2 d3 _ _ _ 10000 c0 c1 c2 c3 (g1.mono (K' := fun _ => True) tr) (g2.mono (K' := fun _ => True) tr) (g3.mono (K' := fun _ => True) tr) (by omega) (by omega) (by omega) b4 hk (fun j => hR.free j) (ci_srt hs.srp) r0
      ⟨U i, List.mem_map.2 ⟨i, hin, rfl⟩, by rw [r1, hU.id]⟩ r2
    refine hc.mono ?_
    rintro e w' ⟨rfl, j, x, hj, hx, W, e0, f0, e1, f1, e2, f2, hW, w1, w2, w3, rfl⟩
    rw [r1] at hx w2 ⊢
    rw [List.getElem?_map, Option.map_eq_some_iff] at hj
    obtain ⟨i', hj, rfl⟩ := hj
    rw [hU.id] at hx
    obtain rfl : i' = i := by omega
    have q1 : ((r.s k).bs.map U).eraseIdx j = (conS (r.s k) i').bs.map U := by
      unfold conS; rw [if_pos hin, ← erase_at hs.nd hj]
      show _ = ((r.s k).bs.eraseIdx j).map U
      rw [eraseIdx_mapT]
    have q2 : (ci (r.s k).ps).erase (i' : Int) = ci (conS (r.s k) i').ps := by unfold conS; rw [if_pos hin, ci_erase]
    have q3 : (r.s k).sn = (conS (r.s k) i').sn := by rw [conS_sn]
    rw [q1] at w1 ⊢
    rw [q2] at w2 ⊢
    rw [q3] at w3 ⊢
    have ne : ∀ b, b < W.heap.size → w.heap.size ≤ b → b ≠ p := fun b _ hb e => by have := hR.lt; omega
    refine ⟨rfl, hset W _ _ _ _ hW ⟨e0, f0, e1, f1, e2, f2, rfl, rfl, rfl, w1.mono ne, w2.mono ne, w3.mono ne, fun j hj => ?_⟩, (hW.mono (fun _ _ h => h.elim)).trans (set4_keeps W p k _ _ _)⟩
    unfold conS at hj; rw [if_pos hin] at hj
    exact g4 j (List.mem_of_mem_erase hj)
  · have e : conS (r.s k) i = r.s k := by unfold conS; rw [if_neg hin]
    have hc := arrive_con_no p k (T : Nat) ad cd d (conL i) w hR.nib (hd.mono (K' := fun _ => True) tr) h8 hdl hop a1 a2 a3 d1 d2 d3 _ _ _ 10000 c0 c1 c2 c3 (g1.mono (K' := fun _ => True) tr) (g2.mono (K' := fun _ => True) tr) (g3.mono (K' := fun _ => True) tr) (by omega) (by omega) (by omega) b4 hk (ci_srt hs.srp) r0
      (.inl (fun x hx => by
        obtain ⟨j, hj, rfl⟩ := List.mem_map.1 hx
        rw [hU.id, r1]
        intro q
        have : j = i := by omega
        subst this; exact hin hj))
    refine hc.mono ?_
    rintro e' w' ⟨rfl, hW⟩
    refine ⟨rfl, ?_, hW.mono (fun _ _ h => h.elim)⟩
    have q : r.put k (conS (r.s k) i) = r := by
      rw [e]; rcases (by omega : k = 0 ∨ k = 1 ∨ k = 2) with rfl | rfl | rfl <;> rfl
    rw [q]
    exact hR.keep hW
/-- a message that changes nothing -/
theorem arr_junk {U : Nat → Bu} {N : Nat} {fts : List Li.Ft} (hU : UOk U N) {p : Nat} {w : World} {r : Rl} (hR : RelW U N fts p w r) (hI : TInvR N r) {k T : Nat} (hk : k ≤ 2) {d : List Nat} (hdd : inert d) (h8 : ∀ c ∈ d, c < 256) (hdl : d.length ≤ 1000)
    (ad : Option Addr) (cd : Nat) (hd : Sl (fun b => b ≠ p) w (.slice ad d.length cd) (u8s d)) :
    Calls Tryd.prog 31 #[.pointer (some ⟨p, 0, none⟩), .int .i64 (T : Nat), .int .i64 (k : Nat), .slice ad d.length cd] w fun e w' => e = .returned (.tuple #[]) ∧
      RelW U N fts p w' r ∧ Keeps (fun b => b = p) w w' := by
  obtain ⟨v1, v2, v3, c0, c1, c2, c3, ⟨a1, d1, a2, d2, a3, d3, rfl, rfl, rfl, g1, g2, g3, g4⟩, hset⟩ := hR.at_ hk
  have hs := rl_ok hI k
  obtain ⟨b1, b2, b3, b4⟩ := stv_bounds hU hs g4
  have tr : ∀ b, b < w.heap.size → b ≠ p → True := fun _ _ _ => trivial
  have fin : ∀ e w', e = Ending.returned (.tuple #[]) ∧ Keeps (fun _ => False) w w' → e = .returned (.tuple #[]) ∧ RelW U N fts p w' r ∧ Keeps (fun b => b = p) w w' := fun e w' h => ⟨h.1, hR.keep h.2, h.2.mono (fun _ _ h => h.elim)⟩
  rcases hdd with hb | ⟨y, hop, ⟨q1, q2⟩ | ⟨q1, q2⟩⟩
  · exact (arrive_bad p k (T : Nat) ad cd d w hR.nib (hd.mono (K' := fun _ => True) tr) h8 (by omega) hb).mono fin
  · exact (arrive_con_no p k (T : Nat) ad cd d y w hR.nib (hd.mono (K' := fun _ => True) tr) h8 (by omega) hop a1 a2 a3 d1 d2 d3 _ _ _ 10000 c0 c1 c2 c3 (g1.mono (K' := fun _ => True) tr) (g2.mono (K' := fun _ => True) tr) (g3.mono (K' := fun _ => True) tr) (by omega) (by omega) (by omega) b4 hk (ci_srt hs.srp) q1 (.inr q2)).mono fin
  · exact (arrive_off_no p k (T : Nat) ad cd d y w hR.nib (hd.mono (K' := fun _ => True) tr) h8 (by omega) hop q1 q2).mono fin
theorem con_rel {U : Nat → Bu} {N i tq : Nat} (hi : i < N) (hto : tq ≤ 2) : ∀ x : Li.Flt, ∀ t n, x.t = t → x.g = node tq → (∀ c ∈ x.d, c < 256) → x.d.length ≤ 1000 → x.d = Cr.seal_ (conL i) → fRel U N x ⟨t, n, tq, .con i⟩ :=
  fun x t n h1 h2 h3 h4 h5 => ⟨h1, hto, h2, h3, h4, hi, h5⟩
theorem off_rel {U : Nat → Bu} {N i tq : Nat} (hi : i < N) (hto : tq ≤ 2) : ∀ x : Li.Flt, ∀ t n, x.t = t → x.g = node tq → (∀ c ∈ x.d, c < 256) → x.d.length ≤ 1000 → x.d = Cr.seal_ (offL (U i)) → fRel U N x ⟨t, n, tq, .off i⟩ :=
  fun x t n h1 h2 h3 h4 h5 => ⟨h1, hto, h2, h3, h4, hi, h5⟩
/-- an offering -/
theorem arr_off {U : Nat → Bu} {N : Nat} {fts : List Li.Ft} (hU : UOk U N) (hF : FtsOk fts) {p : Nat} {w : World} {r : Rl} (hR : RelW U N fts p w r) (hI : TInvR N r) {k i T : Nat} (hk0 : 1 ≤ k) (hk : k ≤ 2) (hT : T < 1000) (hi : i < N) {d : List Nat} (hdd : d = Cr.seal_ (offL (U i)))
    (hcap : pot r.fl + r.cn ≤ 100000) (ad : Option Addr) (cd : Nat) (hd : Sl (fun b => b ≠ p) w (.slice ad d.length cd) (u8s d)) :
    Calls Tryd.prog 31 #[.pointer (some ⟨p, 0, none⟩), .int .i64 (T : Nat), .int .i64 (k : Nat), .slice ad d.length cd] w fun e w' => e = .returned (.tuple #[]) ∧
      ∃ r', Sent (fun c => c ∈ ksOf fts) T (k - 1) (.con i) (r.put k (accS (r.s k) i)) r' ∧ RelW U N fts p w' r' ∧ pot r'.fl + r'.cn ≤ pot r.fl + r.cn + 3 ∧ Keeps (fun b => b = p) w w' := by
  have hii := hU.int hi
  have hx := hU.ok i hi
  have hl := offL_lt hx
  have hlen := offL_len hx
  have h8 : ∀ c ∈ d, c < 256 := by rw [hdd]; exact Cr.seal_lt hl
  have hdl : d.length ≤ 100000 := by rw [hdd, Cr.seal_len]; omega
  have hop : Cr.opened d = (offL (U i), 0) := by rw [hdd]; exact Cr.opened_seal _
  obtain ⟨v1, v2, v3, c0, c1, c2, c3, ⟨a1, d1, a2, d2, a3, d3, rfl, rfl, rfl, g1, g2, g3, g4⟩, hset⟩ := hR.at_ hk
  have hs := rl_ok hI k
  obtain ⟨b1, b2, b3, b4⟩ := stv_bounds hU hs g4
  have tr : ∀ b, b < w.heap.size → b ≠ p → True := fun _ _ _ => trivial
  have hus := used_small b4
  have hid := hU.id i
  have qps : (accS (r.s k) i).ps = (r.s k).ps := by unfold accS; split <;> rfl
  refine (arrive_off p k (T : Nat) ad cd d (offL (U i)) w hR.nib (hd.mono (K' := fun _ => True) tr) h8 hdl hop a1 a2 a3 d1 d2 d3 _ _ _ 10000 c0 c1 c2 c3 (g1.mono (K' := fun _ => True) tr) (g2.mono (K' := fun _ => True) tr) (g3.mono (K' := fun _ => True) tr) (by omega) (by omega) (by omega) b4 hk (fun j => hR.free j) (U i) hx rfl hk0
    ((accS (r.s k) i).bs.map U) (ci (accS (r.s k) i).sn) ?_ (fun w' => ∃ r', Sent (fun c => c ∈ ksOf fts) T (k - 1) (.con i) (r.put k (accS (r.s k) i)) r' ∧ RelW U N fts p w' r' ∧ pot r'.fl + r'.cn ≤ pot r.fl + r.cn + 3 ∧ Keeps (fun b => b = p) w w') ?_).mono (fun e w' h => h)
  · intro X ad9 cd9 hX hd9
    have hd9' := hd9.mono (K' := fun _ => True) (fun _ _ _ => trivial)
    have G1 := (g1.mono (K' := fun _ => True) tr).keep hX (fun _ _ _ h => h)
    have G2 := (g2.mono (K' := fun _ => True) tr).keep hX (fun _ _ _ h => h)
    have G3 := (g3.mono (K' := fun _ => True) tr).keep hX (fun _ _ _ h => h)
    by_cases hin : i ∈ (r.s k).sn
    · have hc := Accept_dup (fun _ => True) 10000 _ _ _ (U i) a1 a2 a3 ad9 d1 d2 d3 cd9 X G1 G2 G3 hd9' (by omega) (by omega) (by omega) b4 hx.n (ci_srt hs.srt) (by rw [hid]; exact ci_mem.2 hin)
      rw [hU.zf, hU.zt] at hc
      refine hc.mono ?_
      rintro e w' ⟨v, rfl, ⟨e0, f0, e1, f1, e2, f2, rfl, w1, w2, w3⟩, hk2⟩
      have q : accS (r.s k) i = r.s k := by unfold accS; rw [if_pos hin]
      rw [q]
      exact ⟨_, rfl, hk2, e0, f0, e1, f1, e2, f2, rfl, w1, w2, w3⟩
    · have hc := Accept_ok (fun _ => True) 10000 _ _ _ (U i) a1 a2 a3 ad9 d1 d2 d3 cd9 X G1 G2 G3 hd9' (by omega) (by omega) (by omega) b4 hx.n (ci_srt hs.srt) (by rw [hid, ci_mem]; exact hin) (by have := hx.n; omega) (by omega)
      rw [hU.zf, hU.zt, hid] at hc
      have q1 : (r.s k).bs.map U ++ [U i] = (accS (r.s k) i).bs.map U := by unfold accS; rw [if_neg hin]; simp
      have q2 : insI (ci (r.s k).sn) (i : Int) = ci (accS (r.s k) i).sn := by unfold accS; rw [if_neg hin]; exact ci_ins hs.srt hin
      rw [q1, q2] at hc
      rw [hid]
      refine hc.mono ?_
      rintro e w' ⟨v, rfl, ⟨e0, f0, e1, f1, e2, f2, rfl, w1, w2, w3⟩, hk2⟩
      exact ⟨_, rfl, hk2, e0, f0, e1, f1, e2, f2, rfl, w1, w2, w3⟩
  · rintro W1 W2 a c ⟨W, e0, f0, e1, f1, e2, f2, hW, w1, w2, w3, rfl⟩ h12 hsl
    rw [hid] at hsl ⊢
    have ne : ∀ b, b < W.heap.size → w.heap.size ≤ b → b ≠ p := fun b _ hb e => by have := hR.lt; omega
    have hR1 := hset W (accS (r.s k) i) _ _ _ hW ⟨e0, f0, e1, f1, e2, f2, rfl, by rw [qps], rfl, w1.mono ne, by rw [qps]; exact w2.mono ne, w3.mono ne, by rw [qps]; exact g4⟩
    have hR2 : RelW U N fts p W2 (r.put k (accS (r.s k) i)) := hR1.keep h12
    have hpf : (r.put k (accS (r.s k) i)).fl = r.fl ∧ (r.put k (accS (r.s k) i)).cn = r.cn := by
      rcases (by omega : k = 0 ∨ k = 1 ∨ k = 2) with rfl | rfl | rfl <;> exact ⟨rfl, rfl⟩
    have hcl := conL_len hii
    have hc := send_all hF hR2 (fr := k) (tq := k - 1) (T := T) (by unfold nbr; omega) hT (l := conL i) (m := .con i) (conL_lt _) (by omega) (fun j hj => con_cut hii hj) (con_rel hi (by omega)) (by rw [hpf.1, hpf.2]; exact hcap) ((k : Int) - 1) (by omega) a c hsl
    refine hc.mono ?_
    rintro e w' ⟨rfl, r', k1, k2, k3, k4⟩
    rw [hpf.1, hpf.2] at k3
    refine ⟨rfl, r', k1, k2, by simpa [wt] using k3, ?_⟩
    exact ((hW.mono (fun _ _ h => h.elim)).trans (set4_keeps W p k _ _ _)).trans ((h12.mono (fun _ _ h => h.elim)).trans' k4 (fun _ _ h => h))
end Go.Proofs.YtgfekgceeigdiaaDoor
namespace Go.Proofs.YtgfekgceeigdiaaDoor
open Go.RowKit
theorem sl_sliceT {K : Nat → Prop} {w : World} {v : Value} {l : List Nat} (h : Sl K w v (u8s l)) : ∃ ad cd, v = .slice ad l.length cd ∧ Sl K w (.slice ad l.length cd) (u8s l) := by
  obtain ⟨a, c, e, _⟩ := h.bytes
  subst e
  exact ⟨a, c, rfl, h⟩
theorem ars_cellsT {K : Nat → Prop} {w : World} {a : Option Addr} {n c : Nat} {l : List Li.Flt} (h : Li.Ars K w (.slice a n c) l) (hl : 0 < l.length) :
    ∃ b o, a = some ⟨b, o, none⟩ ∧ K b ∧ b < w.heap.size ∧ ∀ k x, l[k]? = some x → w.cell? ⟨b, o + k * 3, none⟩ = some (.int .i64 x.f) ∧ w.cell? ⟨b, o + k * 3 + 1, none⟩ = some (.int .i64 x.g) ∧
      ∃ ad cd, w.cell? ⟨b, o + k * 3 + 2, none⟩ = some (.slice ad x.d.length cd) ∧ Sl K w (.slice ad x.d.length cd) (u8s x.d) := by
  obtain ⟨xs, hrow, hc⟩ := h
  obtain ⟨a', c', e, _, _, hel⟩ := hrow.form
  injection e with e1 e2 e3
  subst e1
  obtain ⟨b, o, ea, hK, hb, hcell⟩ := hel hl
  refine ⟨b, o, ea, hK, hb, fun k x hx => ?_⟩
  have hk : k < l.length := (List.getElem?_eq_some_iff.1 hx).1
  obtain ⟨t0, t1, t2⟩ := hc k x hx
  have key : ∀ j, j < 3 → w.cell? ⟨b, o + k * 3 + j, none⟩ = some (xs.getD (k * 3 + j) undef) := fun j hj => by rw [Nat.add_assoc]; exact hcell (k * 3 + j) (by omega)
  obtain ⟨ad, cd, e4, h4⟩ := sl_sliceT t2
  exact ⟨(key 0 (by omega)).trans (congrArg some t0), (key 1 (by omega)).trans (congrArg some t1), ad, cd, (key 2 (by omega)).trans (congrArg some e4), h4⟩
theorem arrive_all {U : Nat → Bu} {N : Nat} {fts : List Li.Ft} (hU : UOk U N) (hF : FtsOk fts) {p : Nat} {w : World} {r : Rl} (hR : RelW U N fts p w r) (hI : TInvR N r) {f : Fg} {x : Li.Flt} (hx : fRel U N x f) (hfo : fOk N r f) {T : Nat} (hT : T < 1000)
    (hcap : pot r.fl + r.cn ≤ 100000) (ad : Option Addr) (cd : Nat) (hd : Sl (fun b => b ≠ p) w (.slice ad x.d.length cd) (u8s x.d)) :
    Calls Tryd.prog 31 #[.pointer (some ⟨p, 0, none⟩), .int .i64 (T : Nat), .int .i64 (f.to : Nat), .slice ad x.d.length cd] w fun e w' => e = .returned (.tuple #[]) ∧
      ∃ r', ArrE (ksOf fts) T f r r' ∧ RelW U N fts p w' r' ∧ pot r'.fl + r'.cn ≤ pot r.fl + r.cn + wt f.m ∧ Keeps (fun b => b = p) w w' := by
  obtain ⟨ht, hto, hg, h8, hl, hm⟩ := hx
  unfold ArrE
  unfold fOk at hfo
  cases hmm : f.m with
  | off i =>
    rw [hmm] at hm hfo
    refine (arr_off hU hF hR hI (k := f.to) (i := i) (T := T) (by omega) hto hT hm.1 hm.2 hcap ad cd hd).mono ?_
    rintro e w' ⟨rfl, r', k1, k2, k3, k4⟩
    refine ⟨rfl, r', ?_, k2, by simp only [wt]; omega, k4⟩
    rcases hfo.2 with q | q
    · rw [q] at k1; exact .inl ⟨q, k1⟩
    · rw [q] at k1; exact .inr ⟨q, k1⟩
  | con i =>
    rw [hmm] at hm hfo
    refine (arr_con hU hR hI (k := f.to) (i := i) (T := T) hto hm.1 hm.2 ad cd hd).mono ?_
    rintro e w' ⟨rfl, k2, k4⟩
    refine ⟨rfl, _, ?_, k2, ?_, k4⟩
    · rcases hfo with ⟨q, _⟩ | ⟨q, _⟩
      · exact .inl ⟨q, by rw [q]; rfl⟩
      · exact .inr ⟨q, by rw [q]; rfl⟩
    · rcases hfo with ⟨q, _⟩ | ⟨q, _⟩ <;> rw [q] <;> exact Nat.le_add_right _ _
  | junk =>
    rw [hmm] at hm
    refine (arr_junk hU hR hI (k := f.to) (T := T) hto hm h8 hl ad cd hd).mono ?_
    rintro e w' ⟨rfl, k2, k4⟩
    exact ⟨rfl, r, rfl, k2, Nat.le_add_right _ _, k4⟩
/-- between two messages that arrive -/
def ArrSt (U : Nat → Bu) (N : Nat) (fts : List Li.Ft) (T : Nat) (gl : List Fg) (r0 : Rl) (C p k : Nat) (w : World) : Prop :=
  ∃ r, Arrs (ksOf fts) T (gl.take k) r0 r ∧ TInvR N r ∧ (∀ i ∈ r0.s1.sn, i ∈ r.s1.sn) ∧ (∀ i ∈ r0.s2.sn, i ∈ r.s2.sn) ∧ RelW U N fts p w r ∧ pot r.fl + r.cn + pot (gl.drop k) ≤ C
theorem ArrSt.keep {U : Nat → Bu} {N : Nat} {fts : List Li.Ft} {T : Nat} {gl : List Fg} {r0 : Rl} {C p k : Nat} {w w' : World} (h : ArrSt U N fts T gl r0 C p k w) (hk : Keeps (fun _ => False) w w') : ArrSt U N fts T gl r0 C p k w' := by
  obtain ⟨r, h1, h2, h3, h4, h5, h6⟩ := h
  exact ⟨r, h1, h2, h3, h4, h5.keep hk, h6⟩
theorem arrSt_step {U : Nat → Bu} {N : Nat} {fts : List Li.Ft} (hU : UOk U N) (hF : FtsOk fts) {T : Nat} {gl : List Fg} {r0 : Rl} {C p k : Nat} {w : World} (h : ArrSt U N fts T gl r0 C p k w) {f : Fg} {x : Li.Flt} (hk : gl[k]? = some f) (hx : fRel U N x f) (hfo : fOk N r0 f) (hT : T < 1000) (hC : C ≤ 100000)
    (ad : Option Addr) (cd : Nat) (hd : Sl (fun b => b ≠ p) w (.slice ad x.d.length cd) (u8s x.d)) :
    Calls Tryd.prog 31 #[.pointer (some ⟨p, 0, none⟩), .int .i64 (T : Nat), .int .i64 (f.to : Nat), .slice ad x.d.length cd] w fun e w' => e = .returned (.tuple #[]) ∧
      ArrSt U N fts T gl r0 C p (k + 1) w' ∧ Keeps (fun b => b = p) w w' := by
  obtain ⟨r, h1, h2, h3, h4, h5, h6⟩ := h
  have hf := fOk_mono hfo h3 h4
  refine (arrive_all hU hF h5 h2 hx hf hT (by omega) ad cd hd).mono ?_
  rintro e w' ⟨rfl, r', k1, k2, k3, k4⟩
  obtain ⟨a1, _, _, _, a5, a6⟩ := arr_one h2 hf k1
  have hkl := (List.getElem?_eq_some_iff.1 hk).1
  have e1 : gl.take (k + 1) = gl.take k ++ [f] := by rw [List.take_add_one, hk]; rfl
  have e2 : gl.drop k = f :: gl.drop (k + 1) := by
    rw [List.drop_eq_getElem_cons hkl]
    congr 1
    exact (List.getElem?_eq_some_iff.1 hk).2
  refine ⟨rfl, ⟨r', by rw [e1]; exact arrs_snoc h1 k1, a1, fun i hi => a5 i (h3 i hi), fun i hi => a6 i (h4 i hi), k2, ?_⟩, k4⟩
  rw [e2, pot_cons] at h6
  omega
/-- a node's turn -/
def NodeG (ks : List Nat) (T n : Nat) (r r' : Rl) : Prop := ∃ s, s = (if T % 7 = 0 then retryS (r.s n) else r.s n) ∧ ((nextS s = none ∧ r' = r.put n s) ∨ ∃ i, nextS s = some i ∧ Sent (fun c => c ∈ ks) (T : Int) (n + 1) (.off i) (r.put n (passS s i)) r')
def NdSt (U : Nat → Bu) (N : Nat) (fts : List Li.Ft) (T : Nat) (a : Rl) (C p n : Nat) (w : World) : Prop :=
  ∃ r, RelW U N fts p w r ∧ TInvR N r ∧ pot r.fl + r.cn ≤ C + 9 * n ∧ (n = 0 → r = a) ∧ (n = 1 → NodeG (ksOf fts) T 0 a r) ∧ (n = 2 → ∃ b, NodeG (ksOf fts) T 0 a b ∧ NodeG (ksOf fts) T 1 b r)
theorem ndSt_next {U : Nat → Bu} {N : Nat} {fts : List Li.Ft} {T : Nat} {a : Rl} {C p n : Nat} {w : World} (h : NdSt U N fts T a C p n w) (hn : n < 2) :
    ∃ r, RelW U N fts p w r ∧ TInvR N r ∧ pot r.fl + r.cn ≤ C + 9 * n ∧ ∀ w' r', NodeG (ksOf fts) T n r r' → RelW U N fts p w' r' → pot r'.fl + r'.cn ≤ pot r.fl + r.cn + 9 → NdSt U N fts T a C p (n + 1) w' := by
  obtain ⟨r, h1, h2, h3, h4, h5, h6⟩ := h
  refine ⟨r, h1, h2, h3, fun w' r' g1 g2 g3 => ?_⟩
  rcases (by omega : n = 0 ∨ n = 1) with rfl | rfl
  · have e := h4 rfl
    have i1 := (node0 h2 g1).1
    exact ⟨r', g2, i1, by omega, fun h => by omega, fun _ => by rw [← e]; exact g1, fun h => by omega⟩
  · have e := h5 rfl
    have i1 := (node1 h2 g1).1
    exact ⟨r', g2, i1, by omega, fun h => by omega, fun h => by omega, fun _ => ⟨r, e, g1⟩⟩
/-- a store's lists, in blocks of K -/
def StK (U : Nat → Bu) (N : Nat) (K : Nat → Prop) (w : World) (s : Sto) (v1 v2 v3 : Value) : Prop := Bus K w v1 (s.bs.map U) ∧ Sl K w v2 (i64s (ci s.ps)) ∧ Sl K w v3 (i64s (ci s.sn)) ∧ (∃ a c, v1 = .slice a (s.bs.map U).length c) ∧ (∃ a c, v2 = .slice a (ci s.ps).length c) ∧ (∃ a c, v3 = .slice a (ci s.sn).length c) ∧ ∀ i ∈ s.ps, i < N
theorem StK.keep {U : Nat → Bu} {N : Nat} {K S : Nat → Prop} {w w' : World} {s : Sto} {v1 v2 v3 : Value} (h : StK U N K w s v1 v2 v3) (hk : Keeps S w w') (hd : ∀ b, b < w.heap.size → K b → ¬ S b) : StK U N K w' s v1 v2 v3 :=
  ⟨h.1.keep hk hd, h.2.1.keep hk hd, h.2.2.1.keep hk hd, h.2.2.2⟩
theorem StK.mono {U : Nat → Bu} {N : Nat} {K K' : Nat → Prop} {w : World} {s : Sto} {v1 v2 v3 : Value} (h : StK U N K w s v1 v2 v3) (hd : ∀ b, b < w.heap.size → K b → K' b) : StK U N K' w s v1 v2 v3 :=
  ⟨h.1.mono hd, h.2.1.mono hd, h.2.2.1.mono hd, h.2.2.2⟩
theorem StK.stv {U : Nat → Bu} {N p : Nat} {w : World} {s : Sto} {v1 v2 v3 : Value} (h : StK U N (fun b => b ≠ p) w s v1 v2 v3) : StV U N p w s v1 v2 v3 := by
  obtain ⟨h1, h2, h3, ⟨a1, c1, e1⟩, ⟨a2, c2, e2⟩, ⟨a3, c3, e3⟩, h4⟩ := h
  exact ⟨a1, c1, a2, c2, a3, c3, e1, e2, e3, h1, h2, h3, h4⟩
def offZ : Value := .tuple #[.agg #[.int .i64 0, .int .i64 0, .int .i64 0, .int .i64 0, .int .i64 0, .int .i64 0, .int .u32 0, .slice none 0 0], .bool false]
/-- a node's store: what the calls on it do -/
theorem RelW.node {U : Nat → Bu} {N : Nat} {fts : List Li.Ft} (hU : UOk U N) {p : Nat} {w : World} {r : Rl} (h : RelW U N fts p w r) (hI : TInvR N r) {k : Nat} (hk : k ≤ 2) :
    ∃ a1 n1 c1 a2 n2 c2 a3 n3 c3, w.cell? ⟨p, k * 4, none⟩ = some (.int .i64 10000) ∧ w.cell? ⟨p, k * 4 + 1, none⟩ = some (.slice a1 n1 c1) ∧ w.cell? ⟨p, k * 4 + 2, none⟩ = some (.slice a2 n2 c2) ∧ w.cell? ⟨p, k * 4 + 3, none⟩ = some (.slice a3 n3 c3) ∧
      (∀ X, Keeps (fun _ => False) w X → Calls Tryd.prog 32 #[.agg #[.int .i64 10000, .slice a1 n1 c1, .slice a2 n2 c2, .slice a3 n3 c3]] X fun e w' => ∃ b1 m1 d1 b2 m2 d2 b3 m3 d3, e = .returned (.agg #[.int .i64 10000, .slice b1 m1 d1, .slice b2 m2 d2, .slice b3 m3 d3]) ∧ Keeps (fun _ => False) X w' ∧ RelW U N fts p (set4 w' p k (.slice b1 m1 d1) (.slice b2 m2 d2) (.slice b3 m3 d3)) (r.put k (retryS (r.s k)))) ∧
      (nextS (r.s k) = none → ∀ X, Keeps (fun _ => False) w X → Calls Tryd.prog 33 #[.agg #[.int .i64 10000, .slice a1 n1 c1, .slice a2 n2 c2, .slice a3 n3 c3], .int .i64 1000] X fun e w' => e = .returned offZ ∧ Keeps (fun _ => False) X w') ∧
      (∀ i, nextS (r.s k) = some i → i < N ∧
        (∀ X, Keeps (fun _ => False) w X → Calls Tryd.prog 33 #[.agg #[.int .i64 10000, .slice a1 n1 c1, .slice a2 n2 c2, .slice a3 n3 c3], .int .i64 1000] X fun e w' => ∃ ad cd, e = .returned (.tuple #[.agg #[.int .i64 (i : Int), .int .i64 0, .int .i64 0, .int .i64 (U i).g, .int .i64 (U i).o, .int .i64 (U i).a, .int .u32 ((U i).s : Int), .slice ad (U i).d.length cd], .bool true]) ∧ Sl (fun b => b ≠ p) w' (.slice ad (U i).d.length cd) (u8s (U i).d) ∧ Keeps (fun _ => False) X w') ∧
        (∀ X, Keeps (fun _ => False) w X → Calls Tryd.prog 34 #[.agg #[.int .i64 10000, .slice a1 n1 c1, .slice a2 n2 c2, .slice a3 n3 c3], .int .i64 (i : Int)] X fun e w' => ∃ b1 m1 d1 b2 m2 d2 b3 m3 d3, e = .returned (.tuple #[.agg #[.int .i64 10000, .slice b1 m1 d1, .slice b2 m2 d2, .slice b3 m3 d3], .int .i64 0]) ∧ Keeps (fun _ => False) X w' ∧
          StK U N (fun b => X.heap.size ≤ b) w' (passS (r.s k) i) (.slice b1 m1 d1) (.slice b2 m2 d2) (.slice b3 m3 d3))) ∧
      (∀ (W : World) (s' : Sto) (u1 u2 u3 : Value), Keeps (fun _ => False) w W → StV U N p W s' u1 u2 u3 → RelW U N fts p (set4 W p k u1 u2 u3) (r.put k s')) := by
  obtain ⟨v1, v2, v3, c0, e1, e2, e3, ⟨a1, d1, a2, d2, a3, d3, rfl, rfl, rfl, g1, g2, g3, g4⟩, hset⟩ := h.at_ hk
  have hs := rl_ok hI k
  obtain ⟨b1, b2, b3, b4⟩ := stv_bounds hU hs g4
  refine ⟨a1, _, d1, a2, _, d2, a3, _, d3, c0, e1, e2, e3, fun X hX => ?_, fun hn X hX => ?_, fun i hi => ?_, hset⟩
  · refine (Retry_any _ 10000 _ _ _ a1 a2 a3 d1 d2 d3 X (g1.keep hX (fun _ _ _ h => h)) (g2.keep hX (fun _ _ _ h => h)) (g3.keep hX (fun _ _ _ h => h)) (by omega) (by omega) (by omega) b4).mono ?_
    rintro e w' ⟨v, rfl, ⟨x1, y1, x2, y2, x3, y3, rfl, w1, w2, w3⟩, hk2⟩
    have ne : ∀ b, b < w'.heap.size → X.heap.size ≤ b → b ≠ p := fun b _ hb e => by have := h.lt; have := hX.size; omega
    exact ⟨_, _, _, _, _, _, _, _, _, rfl, hk2, hset w' (retryS (r.s k)) _ _ _ (hX.trans hk2) ⟨x1, y1, x2, y2, x3, y3, rfl, rfl, rfl, w1.mono ne, w2.mono ne, w3.mono ne, fun _ h => by cases h⟩⟩
  · have hc := Offer_any _ (.int .i64 10000) _ _ a1 a2 d1 d2 (.slice a3 (ci (r.s k).sn).length d3) X (g1.keep hX (fun _ _ _ h => h)) (g2.keep hX (fun _ _ _ h => h)) (by omega) (by omega) b4 (ci_srt hs.srp)
    rw [next_map hU, hn] at hc
    exact hc
  · have hm := nextS_mem hi
    have hlt := hs.lt i (hs.sub i hm)
    have hnp : i ∉ (r.s k).ps := by
      have := List.find?_some hi
      simpa using this
    refine ⟨hlt, fun X hX => ?_, fun X hX => ?_⟩
    · have hc := Offer_any _ (.int .i64 10000) _ _ a1 a2 d1 d2 (.slice a3 (ci (r.s k).sn).length d3) X (g1.keep hX (fun _ _ _ h => h)) (g2.keep hX (fun _ _ _ h => h)) (by omega) (by omega) b4 (ci_srt hs.srp)
      rw [next_map hU, hi] at hc
      refine hc.mono ?_
      rintro e w' ⟨⟨a, c, q1, q2⟩, hk2⟩
      rw [hU.id, hU.zf, hU.zt] at q1
      exact ⟨a, c, q1, q2.mono (fun b _ hb e => by have := h.lt; have := hX.size; omega), hk2⟩
    · have hc := Pass_any _ 10000 _ _ _ a1 a2 a3 d1 d2 d3 X (g1.keep hX (fun _ _ _ h => h)) (g2.keep hX (fun _ _ _ h => h)) (g3.keep hX (fun _ _ _ h => h)) (by omega) (by omega) (by omega) b4 (i : Int)
        ⟨U i, List.mem_map.2 ⟨i, hm, rfl⟩, hU.id i⟩ (fun q => hnp (ci_mem.1 q)) (ci_srt hs.srp)
      rw [ci_ins hs.srp hnp] at hc
      refine hc.mono ?_
      rintro e w' ⟨v, rfl, ⟨x1, y1, x2, y2, x3, y3, rfl, w1, w2, w3⟩, hk2⟩
      exact ⟨_, _, _, _, _, _, _, _, _, rfl, hk2, w1, w2, w3, ⟨_, _, rfl⟩, ⟨_, _, rfl⟩, ⟨_, _, rfl⟩, fun j hj => by
        rcases mem_insS.1 hj with rfl | hj
        · exact hlt
        · exact g4 j hj⟩
theorem put_put (r : Rl) (k : Nat) (hk : k ≤ 2) (x y : Sto) : (r.put k x).put k y = r.put k y := by
  rcases (by omega : k = 0 ∨ k = 1 ∨ k = 2) with rfl | rfl | rfl <;> rfl
theorem put_s (r : Rl) (k : Nat) (hk : k ≤ 2) (x : Sto) : (r.put k x).s k = x := by
  rcases (by omega : k = 0 ∨ k = 1 ∨ k = 2) with rfl | rfl | rfl <;> rfl
theorem put_self (r : Rl) (k : Nat) (hk : k ≤ 2) : r.put k (r.s k) = r := by
  rcases (by omega : k = 0 ∨ k = 1 ∨ k = 2) with rfl | rfl | rfl <;> rfl
theorem put_fl (r : Rl) (k : Nat) (x : Sto) : (r.put k x).fl = r.fl ∧ (r.put k x).cn = r.cn := by
  unfold Rl.put; split <;> exact ⟨rfl, rfl⟩
theorem retry_inv {N : Nat} {r : Rl} (h : TInvR N r) {k : Nat} (hk : k < 2) : TInvR N (r.put k (retryS (r.s k))) := by
  rcases (by omega : k = 0 ∨ k = 1) with rfl | rfl
  · exact (retry0 h).1
  · exact (retry1 h).1
/-- the offering is sent -/
theorem offer_sent {U : Nat → Bu} {N : Nat} {fts : List Li.Ft} (hU : UOk U N) (hF : FtsOk fts) {p : Nat} {w : World} {r : Rl} {n i T : Nat} (hn : n < 2) (hi : i < N) (hT : T < 1000) {s : Sto} (hR : RelW U N fts p w (r.put n (passS s i))) (hcap : pot r.fl + r.cn ≤ 100000)
    (ad : Option Addr) (cd : Nat) (hd : Sl (fun _ => True) w (.slice ad (offL (U i)).length cd) (u8s (offL (U i)))) (hs : s = (if T % 7 = 0 then retryS (r.s n) else r.s n)) (hx : nextS s = some i) :
    Calls Tryd.prog 35 #[.pointer (some ⟨p, 0, none⟩), .int .i64 (T : Nat), .int .i64 (n : Nat), .int .i64 ((n : Int) + 1), .slice ad (offL (U i)).length cd] w fun e w' => e = .returned (.tuple #[]) ∧
      ∃ r', NodeG (ksOf fts) T n r r' ∧ RelW U N fts p w' r' ∧ pot r'.fl + r'.cn ≤ pot r.fl + r.cn + 9 ∧ Keeps (fun b => b = p) w w' := by
  have hx' := hU.ok i hi
  obtain ⟨f1, f2⟩ := put_fl r n (passS s i)
  have hlen := offL_len hx'
  refine (send_all hF hR (fr := n) (tq := n + 1) (T := T) (by unfold nbr; omega) hT (l := offL (U i)) (m := .off i) (offL_lt hx') (by omega) (fun j hj => .inr (off_cut hx' hj)) (off_rel hi (by omega)) (by rw [f1, f2]; exact hcap) ((n : Int) + 1) (by omega) ad cd hd).mono ?_
  rintro e w' ⟨rfl, r', k1, k2, k3, k4⟩
  rw [f1, f2] at k3
  exact ⟨rfl, r', ⟨s, hs, .inr ⟨i, hx, k1⟩⟩, k2, by simpa [wt] using k3, k4⟩
end Go.Proofs.YtgfekgceeigdiaaDoor
