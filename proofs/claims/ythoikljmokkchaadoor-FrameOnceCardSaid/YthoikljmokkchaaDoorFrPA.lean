/- Frame: the plain receiver. -/
import Derived.Test.YthoikljmokkchaaDoorFrM
namespace Go.Proofs.YthoikljmokkchaaDoor
open Go.RowKit
/-- a frame put into its place -/
def insM (f : Fr) : List Fr → List Fr
  | [] => [f]
  | x :: l => if x.q < f.q then x :: insM f l else if x.q = f.q then x :: l else f :: x :: l
theorem insM_at (f : Fr) : ∀ (l : List Fr) (k : Nat), k ≤ l.length → (∀ (i : Nat) (y : Fr), i < k → l[i]? = some y → y.q < f.q) → (∀ (y : Fr), l[k]? = some y → f.q < y.q) → insM f l = l.take k ++ f :: l.drop k := by
  intro l
  induction l with
  | nil => intro k hk _ _; have : k = 0 := by simpa using hk
           subst this; rfl
  | cons x l ih =>
    intro k hk h1 h2
    cases k with
    | zero =>
      have := h2 x rfl
      unfold insM
      rw [if_neg (by omega), if_neg (by omega)]; rfl
    | succ k =>
      have := h1 0 x (by omega) rfl
      unfold insM
      rw [if_pos this, ih k (by simpa using hk) (fun i y hi hy => h1 (i + 1) y (by omega) (by simpa using hy)) (fun y hy => h2 y (by simpa using hy))]; rfl
theorem insM_in (f : Fr) : ∀ (l : List Fr) (k : Nat) (x : Fr), l[k]? = some x → x.q = f.q → (∀ (i : Nat) (y : Fr), i < k → l[i]? = some y → y.q < f.q) → insM f l = l := by
  intro l
  induction l with
  | nil => intro k x h; simp at h
  | cons y l ih =>
    intro k x h hq h1
    cases k with
    | zero =>
      have : y = x := by simpa using h
      subst this
      unfold insM
      rw [if_neg (by omega), if_pos hq]
    | succ k =>
      have := h1 0 y (by omega) rfl
      unfold insM
      rw [if_pos this, ih k x (by simpa using h) hq (fun i z hi hz => h1 (i + 1) z (by omega) (by simpa using hz))]
theorem insM_mem {f x : Fr} : ∀ {l : List Fr}, x ∈ insM f l → x = f ∨ x ∈ l := by
  intro l
  induction l with
  | nil => intro h; unfold insM at h; simp at h; exact .inl h
  | cons y l ih =>
    intro h
    unfold insM at h
    split at h
    · rcases List.mem_cons.1 h with h | h
      · exact .inr (by rw [h]; exact List.mem_cons_self)
      · rcases ih h with h | h
        · exact .inl h
        · exact .inr (List.mem_cons_of_mem _ h)
    · split at h
      · exact .inr h
      · rcases List.mem_cons.1 h with h | h
        · exact .inl h
        · exact .inr h
theorem insM_old {f x : Fr} : ∀ {l : List Fr}, x ∈ l → x ∈ insM f l := by
  intro l
  induction l with
  | nil => intro h; cases h
  | cons y l ih =>
    intro h
    unfold insM
    split
    · rcases List.mem_cons.1 h with h | h
      · rw [h]; exact List.mem_cons_self
      · exact List.mem_cons_of_mem _ (ih h)
    · split
      · exact h
      · exact List.mem_cons_of_mem _ h
theorem insM_has (f : Fr) : ∀ (l : List Fr), ∃ x ∈ insM f l, x.q = f.q := by
  intro l
  induction l with
  | nil => exact ⟨f, by unfold insM; simp, rfl⟩
  | cons y l ih =>
    unfold insM
    split
    · obtain ⟨x, h1, h2⟩ := ih
      exact ⟨x, List.mem_cons_of_mem _ h1, h2⟩
    · split
      · rename_i h; exact ⟨y, List.mem_cons_self, h⟩
      · exact ⟨f, List.mem_cons_self, rfl⟩
theorem insM_sorted {f : Fr} : ∀ {l : List Fr}, l.Pairwise (fun x y => x.q < y.q) → (insM f l).Pairwise (fun x y => x.q < y.q) := by
  intro l
  induction l with
  | nil => intro _; unfold insM; simp
  | cons y l ih =>
    intro h
    obtain ⟨h1, h2⟩ := List.pairwise_cons.1 h
    unfold insM
    split
    · rename_i hlt
      refine List.pairwise_cons.2 ⟨fun x hx => ?_, ih h2⟩
      rcases insM_mem hx with rfl | hx
      · exact hlt
      · exact h1 x hx
    · split
      · exact h
      · rename_i g1 g2
        refine List.pairwise_cons.2 ⟨fun x hx => ?_, h⟩
        rcases List.mem_cons.1 hx with rfl | hx
        · omega
        · have := h1 x hx; omega
/-- how many frames follow at once -/
def dlvN (n : Int) : List Fr → Nat
  | [] => 0
  | x :: l => if x.q = n then dlvN (n + 1) l + 1 else 0
theorem dlvN_eq : ∀ (l : List Fr) (n : Int) (j : Nat), j ≤ l.length → (∀ (i : Nat) (y : Fr), i < j → l[i]? = some y → y.q = n + i) → (∀ (y : Fr), l[j]? = some y → y.q ≠ n + j) → dlvN n l = j := by
  intro l
  induction l with
  | nil => intro n j hj _ _; have : j = 0 := by simpa using hj
           subst this; rfl
  | cons x l ih =>
    intro n j hj h1 h2
    cases j with
    | zero =>
      have := h2 x rfl
      unfold dlvN
      rw [if_neg (by simpa using this)]
    | succ j =>
      have := h1 0 x (by omega) rfl
      unfold dlvN
      rw [if_pos (by simpa using this), ih (n + 1) j (by simpa using hj) (fun i y hi hy => by have := h1 (i + 1) y (by omega) (by simpa using hy); push_cast at this; omega) (fun y hy => by have := h2 y (by simpa using hy); push_cast at this; omega)]
theorem dlvN_le : ∀ (l : List Fr) (n : Int), dlvN n l ≤ l.length := by
  intro l
  induction l with
  | nil => intro n; exact Nat.le_refl _
  | cons x l ih =>
    intro n
    unfold dlvN
    split
    · have := ih (n + 1); simp only [List.length_cons]; omega
    · exact Nat.zero_le _
theorem dlvN_in : ∀ (l : List Fr) (n : Int) (i : Nat) (y : Fr), i < dlvN n l → l[i]? = some y → y.q = n + i := by
  intro l
  induction l with
  | nil => intro n i y _ h; simp at h
  | cons x l ih =>
    intro n i y hi hy
    unfold dlvN at hi
    split at hi
    · rename_i hx
      cases i with
      | zero => have : x = y := by simpa using hy
                subst this; simpa using hx
      | succ i => have := ih (n + 1) i y (by omega) (by simpa using hy); push_cast; omega
    · omega
theorem dlvN_out : ∀ (l : List Fr) (n : Int) (y : Fr), l[dlvN n l]? = some y → y.q ≠ n + dlvN n l := by
  intro l
  induction l with
  | nil => intro n y h; simp at h
  | cons x l ih =>
    intro n y hy
    unfold dlvN at hy ⊢
    split at hy
    · rename_i hx
      rw [if_pos hx]
      have := ih (n + 1) y (by simpa using hy)
      push_cast; omega
    · rename_i hx
      rw [if_neg hx]
      have : x = y := by simpa using hy
      subst this; simpa using hx
structure Rv where
  nx : Int
  fs : List Fr
  lk : Bool
  l : Ld
structure Rv.ok (r : Rv) (B : Int) : Prop where
  n0 : 0 ≤ r.nx
  n1 : r.nx ≤ B
  f : ∀ x ∈ r.fs, r.nx < x.q ∧ x.q ≤ r.nx + 15 ∧ x.ok ∧ x.b.length ≤ 512
  s : r.fs.Pairwise (fun x y => x.q < y.q)
  k : r.l.k < 18446744073709551616
  i0 : 0 ≤ r.l.i
  i1 : r.l.i ≤ B
theorem sorted_len : ∀ {l : List Fr} {a b : Int}, a ≤ b → (∀ x ∈ l, a < x.q ∧ x.q ≤ b) → l.Pairwise (fun x y => x.q < y.q) → (l.length : Int) ≤ b - a := by
  intro l
  induction l with
  | nil => intro a b h _ _; simp only [List.length_nil]; omega
  | cons x l ih =>
    intro a b h h1 h2
    obtain ⟨g1, g2⟩ := List.pairwise_cons.1 h2
    have h3 := h1 x List.mem_cons_self
    have := ih (a := x.q) (b := b) h3.2 (fun y hy => ⟨g1 y hy, (h1 y (List.mem_cons_of_mem _ hy)).2⟩) g2
    simp only [List.length_cons]; push_cast; omega
theorem Rv.ok.len {r : Rv} {B : Int} (h : r.ok B) : r.fs.length ≤ 15 := by
  have := sorted_len (a := r.nx) (b := r.nx + 15) (by omega) (fun x hx => ⟨(h.f x hx).1, (h.f x hx).2.1⟩) h.s
  omega
/-- what the receiver does -/
def distM (q nx : Int) : Nat := modN ((modN q : Int) - (modN nx : Int))
theorem distM_lt (q nx : Int) : distM q nx < 256 := modN_lt _
theorem distM_cast (q nx : Int) : ((distM q nx : Nat) : Int) = (q - nx) % 256 := by unfold distM; rw [modN_cast, modN_cast, modN_cast]; omega
def setQ (f : Fr) (q : Int) : Fr := ⟨q, f.k, f.u, f.b, f.t⟩
def delivM (r : Rv) (l : Ld) (b : List Nat) : Rv × List (List Nat) × Int :=
  (⟨r.nx + 1 + (dlvN (r.nx + 1) r.fs : Nat), r.fs.drop (dlvN (r.nx + 1) r.fs), r.lk, l⟩, b :: (r.fs.take (dlvN (r.nx + 1) r.fs)).map (·.b), 0)
def recv2 (r : Rv) (l : Ld) (f : Fr) : Rv × List (List Nat) × Int :=
  if f.u then (if 128 ≤ distM f.q r.nx then (⟨r.nx, [], false, l⟩, [], 0) else (⟨r.nx + (distM f.q r.nx : Nat), [], false, l⟩, [], 0))
  else if r.lk then (⟨r.nx, r.fs, r.lk, l⟩, [], 31)
  else if distM f.q r.nx = 0 then delivM r l f.b
  else if distM f.q r.nx < 16 then (⟨r.nx, insM (setQ f (r.nx + (distM f.q r.nx : Nat))) r.fs, r.lk, l⟩, [], 0)
  else if distM f.q r.nx < 128 then (⟨r.nx, r.fs, true, l⟩, [], 32)
  else (⟨r.nx, r.fs, r.lk, l⟩, [], 0)
def recvM (r : Rv) (f : Fr) : Rv × List (List Nat) × Int :=
  if 512 < f.b.length then (r, [], 2)
  else if (acceptL r.l f.k (covL f) f.t).2 ≠ 0 then (r, [], (acceptL r.l f.k (covL f) f.t).2)
  else recv2 r (acceptL r.l f.k (covL f) f.t).1 f
theorem dlvN_rest : ∀ (l : List Fr) (n : Int), (∀ x ∈ l, n ≤ x.q) → l.Pairwise (fun x y => x.q < y.q) → ∀ x ∈ l.drop (dlvN n l), n + (dlvN n l : Nat) < x.q := by
  intro l
  induction l with
  | nil => intro n _ _ x h; simp at h
  | cons y l ih =>
    intro n h1 h2 x hx
    obtain ⟨g1, g2⟩ := List.pairwise_cons.1 h2
    have h3 := h1 y List.mem_cons_self
    unfold dlvN at hx ⊢
    split at hx
    · rename_i hq
      rw [if_pos hq]
      have := ih (n + 1) (fun z hz => by have := g1 z hz; omega) g2 x (by simpa using hx)
      push_cast; omega
    · rename_i hq
      rw [if_neg hq]
      rcases List.mem_cons.1 (by simpa using hx) with rfl | hx
      · simp only [Int.ofNat_zero]; omega
      · have := g1 x hx; simp only [Int.ofNat_zero]; omega
theorem accept_cases (l : Ld) (idx : Int) (b : List Nat) (tag : Nat) : (∃ e, e ≠ 0 ∧ acceptL l idx b tag = (⟨0, 0⟩, e)) ∨ (l.i ≤ idx ∧ idx ≤ l.i + 4096 ∧ tagN (iterN (idx - l.i).toNat l.k) b = tag ∧ acceptL l idx b tag = (⟨stepN (iterN (idx - l.i).toNat l.k), idx + 1⟩, 0)) := by
  by_cases h : idx < l.i ∨ l.i + 4096 < idx
  · exact .inl ⟨30, by omega, accept_key _ _ h⟩
  · by_cases h2 : tagN (iterN (idx - l.i).toNat l.k) b = tag
    · exact .inr ⟨by omega, by omega, h2, accept_ok h h2⟩
    · exact .inl ⟨8, by omega, accept_sum h h2⟩
theorem setQ_ok {f : Fr} (h : f.ok) {q : Int} (h0 : -9223372036854775808 ≤ q) (h1 : q ≤ 9223372036854775807) : (setQ f q).ok := ⟨h0, h1, h.k0, h.k1, h.b, h.t, h.n⟩
theorem recv2_ok {r : Rv} {B : Int} (h : r.ok B) (hB : B ≤ 1000000000) {l : Ld} {f : Fr} (hf : f.ok) (hb : f.b.length ≤ 512) (hk : l.k < 18446744073709551616) (hi0 : 0 ≤ l.i) (hi1 : l.i ≤ B + 5000) : (recv2 r l f).1.ok (B + 5000) := by
  have n0 := h.n0; have n1 := h.n1
  have hd := distM_lt f.q r.nx
  unfold recv2
  split
  · split
    · exact ⟨n0, by show r.nx ≤ _; omega, fun x hx => (by cases hx), List.Pairwise.nil, hk, hi0, hi1⟩
    · exact ⟨by show 0 ≤ r.nx + _; omega, by show r.nx + _ ≤ _; omega, fun x hx => (by cases hx), List.Pairwise.nil, hk, hi0, hi1⟩
  · split
    · exact ⟨n0, by show r.nx ≤ _; omega, h.f, h.s, hk, hi0, hi1⟩
    · split
      · have hl := h.len
        have hd2 := dlvN_le r.fs (r.nx + 1)
        refine ⟨by show 0 ≤ r.nx + 1 + _; omega, by show r.nx + 1 + _ ≤ _; omega, fun x hx => ?_, ?_, hk, hi0, hi1⟩
        · have hx' : x ∈ r.fs.drop (dlvN (r.nx + 1) r.fs) := hx
          have h1 := dlvN_rest r.fs (r.nx + 1) (fun y hy => by have := (h.f y hy).1; omega) h.s x hx'
          have h2 := h.f x (List.mem_of_mem_drop hx')
          exact ⟨h1, by show x.q ≤ r.nx + 1 + _ + 15; omega, h2.2.2⟩
        · exact h.s.sublist (List.drop_sublist _ _)
      · split
        · rename_i hd0 hd1
          refine ⟨n0, by show r.nx ≤ _; omega, fun x hx => ?_, insM_sorted h.s, hk, hi0, hi1⟩
          rcases insM_mem hx with rfl | hx
          · exact ⟨by show r.nx < r.nx + _; omega, by show r.nx + _ ≤ r.nx + 15; omega, setQ_ok hf (by omega) (by omega), hb⟩
          · exact h.f x hx
        · split
          · exact ⟨n0, by show r.nx ≤ _; omega, h.f, h.s, hk, hi0, hi1⟩
          · exact ⟨n0, by show r.nx ≤ _; omega, h.f, h.s, hk, hi0, hi1⟩
theorem Rv.ok.mono {r : Rv} {B C : Int} (h : r.ok B) (hc : B ≤ C) : r.ok C := ⟨h.n0, by have := h.n1; omega, h.f, h.s, h.k, h.i0, by have := h.i1; omega⟩
theorem recvM_ok {r : Rv} {B : Int} (h : r.ok B) (hB : B ≤ 1000000000) {f : Fr} (hf : f.ok) : (recvM r f).1.ok (B + 5000) := by
  have n0 := h.n0; have n1 := h.n1; have i0 := h.i0; have i1 := h.i1
  unfold recvM
  split
  · exact h.mono (by omega)
  · rcases accept_cases r.l f.k (covL f) f.t with ⟨e, he, ha⟩ | ⟨h1, h2, h3, ha⟩
    · rw [ha, if_pos he]; exact h.mono (by omega)
    · rw [ha, if_neg (by simp)]
      exact recv2_ok h hB hf (by omega) (stepN_lt _) (by show 0 ≤ f.k + 1; omega) (by show f.k + 1 ≤ _; omega)
theorem delivM_bodies {r : Rv} {l : Ld} {b : List Nat} {B : Int} (h : r.ok B) (hb : b.length ≤ 512) : ∀ x ∈ (delivM r l b).2.1, x.length ≤ 512 := by
  intro x hx
  rcases List.mem_cons.1 hx with rfl | hx
  · exact hb
  · obtain ⟨y, hy, rfl⟩ := List.mem_map.1 hx
    exact (h.f y (List.mem_of_mem_take hy)).2.2.2
end Go.Proofs.YthoikljmokkchaaDoor
