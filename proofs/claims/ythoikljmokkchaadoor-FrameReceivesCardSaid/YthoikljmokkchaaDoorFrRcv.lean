/- Frames: FrPA, FrQ, FrR: walks and plain facts. -/
import Derived.Test.YthoikljmokkchaaDoorFrRun
import Derived.Deep.QuietTactic
import Derived.Laws.OwnMore
namespace Go.Proofs.YthoikljmokkchaaDoor
open Go.RowKit
/-- a frame put into its place -/
def insM (f : Fr) : List Fr → List Fr
  | [] => [f]
  | x :: l => if x.q < f.q then x :: insM f l else if x.q = f.q then x :: l else f :: x :: l
theorem insM_at (f : Fr) : ∀ (l : List Fr) (k : Nat), k ≤ l.length → (∀ (i : Nat) (y : Fr), i < k → l[i]? = some y → y.q < f.q) → (∀ (y : Fr), l[k]? = some y → f.q < y.q) → insM f l = l.take k ++ f :: l.drop k := by
  intro l
  induction l with
  | nil => intro k hk _ _; have : k = 0 := by simpa using hk
           subst this; rfl
  | cons x l ih =>
    intro k hk h1 h2
    cases k with
    | zero =>
      have := h2 x rfl
      unfold insM
      rw [if_neg (by omega), if_neg (by omega)]; rfl
    | succ k =>
      have := h1 0 x (by omega) rfl
      unfold insM
      rw [if_pos this, ih k (by simpa using hk) (fun i y hi hy => h1 (i + 1) y (by omega) (by simpa using hy)) (fun y hy => h2 y (by simpa using hy))]; rfl
theorem insM_in (f : Fr) : ∀ (l : List Fr) (k : Nat) (x : Fr), l[k]? = some x → x.q = f.q → (∀ (i : Nat) (y : Fr), i < k → l[i]? = some y → y.q < f.q) → insM f l = l := by
  intro l
  induction l with
  | nil => intro k x h; simp at h
  | cons y l ih =>
    intro k x h hq h1
    cases k with
    | zero =>
      have : y = x := by simpa using h
      subst this
      unfold insM
      rw [if_neg (by omega), if_pos hq]
    | succ k =>
      have := h1 0 y (by omega) rfl
      unfold insM
      rw [if_pos this, ih k x (by simpa using h) hq (fun i z hi hz => h1 (i + 1) z (by omega) (by simpa using hz))]
theorem insM_mem {f x : Fr} : ∀ {l : List Fr}, x ∈ insM f l → x = f ∨ x ∈ l := by
  intro l
  induction l with
  | nil => intro h; unfold insM at h; simp at h; exact .inl h
  | cons y l ih =>
    intro h
    unfold insM at h
    split at h
    · rcases List.mem_cons.1 h with h | h
      · exact .inr (by rw [h]; exact List.mem_cons_self)
      · rcases ih h with h | h
        · exact .inl h
        · exact .inr (List.mem_cons_of_mem _ h)
    · split at h
      · exact .inr h
      · rcases List.mem_cons.1 h with h | h
        · exact .inl h
        · exact .inr h
theorem insM_sorted {f : Fr} : ∀ {l : List Fr}, l.Pairwise (fun x y => x.q < y.q) → (insM f l).Pairwise (fun x y => x.q < y.q) := by
  intro l
  induction l with
  | nil => intro _; unfold insM; simp
  | cons y l ih =>
    intro h
    obtain ⟨h1, h2⟩ := List.pairwise_cons.1 h
    unfold insM
    split
    · rename_i hlt
      refine List.pairwise_cons.2 ⟨fun x hx => ?_, ih h2⟩
      rcases insM_mem hx with rfl | hx
      · exact hlt
      · exact h1 x hx
    · split
      · exact h
      · rename_i g1 g2
        refine List.pairwise_cons.2 ⟨fun x hx => ?_, h⟩
        rcases List.mem_cons.1 hx with rfl | hx
        · omega
        · have := h1 x hx; omega
/-- how many frames follow at once -/
def dlvN (n : Int) : List Fr → Nat
  | [] => 0
  | x :: l => if x.q = n then dlvN (n + 1) l + 1 else 0
theorem dlvN_eq : ∀ (l : List Fr) (n : Int) (j : Nat), j ≤ l.length → (∀ (i : Nat) (y : Fr), i < j → l[i]? = some y → y.q = n + i) → (∀ (y : Fr), l[j]? = some y → y.q ≠ n + j) → dlvN n l = j := by
  intro l
  induction l with
  | nil => intro n j hj _ _; have : j = 0 := by simpa using hj
           subst this; rfl
  | cons x l ih =>
    intro n j hj h1 h2
    cases j with
    | zero =>
      have := h2 x rfl
      unfold dlvN
      rw [if_neg (by simpa using this)]
    | succ j =>
      have := h1 0 x (by omega) rfl
      unfold dlvN
      rw [if_pos (by simpa using this), ih (n + 1) j (by simpa using hj) (fun i y hi hy => by have := h1 (i + 1) y (by omega) (by simpa using hy); push_cast at this; omega) (fun y hy => by have := h2 y (by simpa using hy); push_cast at this; omega)]
theorem dlvN_le : ∀ (l : List Fr) (n : Int), dlvN n l ≤ l.length := by
  intro l
  induction l with
  | nil => intro n; exact Nat.le_refl _
  | cons x l ih =>
    intro n
    unfold dlvN
    split
    · have := ih (n + 1); simp only [List.length_cons]; omega
    · exact Nat.zero_le _
structure Rv where
  nx : Int
  fs : List Fr
  lk : Bool
  l : Ld
structure Rv.ok (r : Rv) (B : Int) : Prop where
  n0 : 0 ≤ r.nx
  n1 : r.nx ≤ B
  f : ∀ x ∈ r.fs, r.nx < x.q ∧ x.q ≤ r.nx + 15 ∧ x.ok ∧ x.b.length ≤ 512
  s : r.fs.Pairwise (fun x y => x.q < y.q)
  k : r.l.k < 18446744073709551616
  i0 : 0 ≤ r.l.i
  i1 : r.l.i ≤ B
theorem sorted_len : ∀ {l : List Fr} {a b : Int}, a ≤ b → (∀ x ∈ l, a < x.q ∧ x.q ≤ b) → l.Pairwise (fun x y => x.q < y.q) → (l.length : Int) ≤ b - a := by
  intro l
  induction l with
  | nil => intro a b h _ _; simp only [List.length_nil]; omega
  | cons x l ih =>
    intro a b h h1 h2
    obtain ⟨g1, g2⟩ := List.pairwise_cons.1 h2
    have h3 := h1 x List.mem_cons_self
    have := ih (a := x.q) (b := b) h3.2 (fun y hy => ⟨g1 y hy, (h1 y (List.mem_cons_of_mem _ hy)).2⟩) g2
    simp only [List.length_cons]; push_cast; omega
theorem Rv.ok.len {r : Rv} {B : Int} (h : r.ok B) : r.fs.length ≤ 15 := by
  have := sorted_len (a := r.nx) (b := r.nx + 15) (by omega) (fun x hx => ⟨(h.f x hx).1, (h.f x hx).2.1⟩) h.s
  omega
/-- what the receiver does -/
def distM (q nx : Int) : Nat := modN ((modN q : Int) - (modN nx : Int))
theorem distM_lt (q nx : Int) : distM q nx < 256 := modN_lt _
def setQ (f : Fr) (q : Int) : Fr := ⟨q, f.k, f.u, f.b, f.t⟩
def delivM (r : Rv) (l : Ld) (b : List Nat) : Rv × List (List Nat) × Int :=
  (⟨r.nx + 1 + (dlvN (r.nx + 1) r.fs : Nat), r.fs.drop (dlvN (r.nx + 1) r.fs), r.lk, l⟩, b :: (r.fs.take (dlvN (r.nx + 1) r.fs)).map (·.b), 0)
def recv2 (r : Rv) (l : Ld) (f : Fr) : Rv × List (List Nat) × Int :=
  if f.u then (if 128 ≤ distM f.q r.nx then (⟨r.nx, [], false, l⟩, [], 0) else (⟨r.nx + (distM f.q r.nx : Nat), [], false, l⟩, [], 0))
  else if r.lk then (⟨r.nx, r.fs, r.lk, l⟩, [], 31)
  else if distM f.q r.nx = 0 then delivM r l f.b
  else if distM f.q r.nx < 16 then (⟨r.nx, insM (setQ f (r.nx + (distM f.q r.nx : Nat))) r.fs, r.lk, l⟩, [], 0)
  else if distM f.q r.nx < 128 then (⟨r.nx, r.fs, true, l⟩, [], 32)
  else (⟨r.nx, r.fs, r.lk, l⟩, [], 0)
def recvM (r : Rv) (f : Fr) : Rv × List (List Nat) × Int :=
  if 512 < f.b.length then (r, [], 2)
  else if (acceptL r.l f.k (covL f) f.t).2 ≠ 0 then (r, [], (acceptL r.l f.k (covL f) f.t).2)
  else recv2 r (acceptL r.l f.k (covL f) f.t).1 f
theorem dlvN_rest : ∀ (l : List Fr) (n : Int), (∀ x ∈ l, n ≤ x.q) → l.Pairwise (fun x y => x.q < y.q) → ∀ x ∈ l.drop (dlvN n l), n + (dlvN n l : Nat) < x.q := by
  intro l
  induction l with
  | nil => intro n _ _ x h; simp at h
  | cons y l ih =>
    intro n h1 h2 x hx
    obtain ⟨g1, g2⟩ := List.pairwise_cons.1 h2
    have h3 := h1 y List.mem_cons_self
    unfold dlvN at hx ⊢
    split at hx
    · rename_i hq
      rw [if_pos hq]
      have := ih (n + 1) (fun z hz => by have := g1 z hz; omega) g2 x (by simpa using hx)
      push_cast; omega
    · rename_i hq
      rw [if_neg hq]
      rcases List.mem_cons.1 (by simpa using hx) with rfl | hx
      · simp only [Int.ofNat_zero]; omega
      · have := g1 x hx; simp only [Int.ofNat_zero]; omega
theorem accept_cases (l : Ld) (idx : Int) (b : List Nat) (tag : Nat) : (∃ e, e ≠ 0 ∧ acceptL l idx b tag = (⟨0, 0⟩, e)) ∨ (l.i ≤ idx ∧ idx ≤ l.i + 4096 ∧ tagN (iterN (idx - l.i).toNat l.k) b = tag ∧ acceptL l idx b tag = (⟨stepN (iterN (idx - l.i).toNat l.k), idx + 1⟩, 0)) := by
  by_cases h : idx < l.i ∨ l.i + 4096 < idx
  · exact .inl ⟨30, by omega, accept_key _ _ h⟩
  · by_cases h2 : tagN (iterN (idx - l.i).toNat l.k) b = tag
    · exact .inr ⟨by omega, by omega, h2, accept_ok h h2⟩
    · exact .inl ⟨8, by omega, accept_sum h h2⟩
theorem setQ_ok {f : Fr} (h : f.ok) {q : Int} (h0 : -9223372036854775808 ≤ q) (h1 : q ≤ 9223372036854775807) : (setQ f q).ok := ⟨h0, h1, h.k0, h.k1, h.b, h.t, h.n⟩
theorem recv2_ok {r : Rv} {B : Int} (h : r.ok B) (hB : B ≤ 1000000000) {l : Ld} {f : Fr} (hf : f.ok) (hb : f.b.length ≤ 512) (hk : l.k < 18446744073709551616) (hi0 : 0 ≤ l.i) (hi1 : l.i ≤ B + 5000) : (recv2 r l f).1.ok (B + 5000) := by
  have n0 := h.n0; have n1 := h.n1
  have hd := distM_lt f.q r.nx
  unfold recv2
  split
  · split
    · exact ⟨n0, by show r.nx ≤ _; omega, fun x hx => (by cases hx), List.Pairwise.nil, hk, hi0, hi1⟩
    · exact ⟨by show 0 ≤ r.nx + _; omega, by show r.nx + _ ≤ _; omega, fun x hx => (by cases hx), List.Pairwise.nil, hk, hi0, hi1⟩
  · split
    · exact ⟨n0, by show r.nx ≤ _; omega, h.f, h.s, hk, hi0, hi1⟩
    · split
      · have hl := h.len
        have hd2 := dlvN_le r.fs (r.nx + 1)
        refine ⟨by show 0 ≤ r.nx + 1 + _; omega, by show r.nx + 1 + _ ≤ _; omega, fun x hx => ?_, ?_, hk, hi0, hi1⟩
        · have hx' : x ∈ r.fs.drop (dlvN (r.nx + 1) r.fs) := hx
          have h1 := dlvN_rest r.fs (r.nx + 1) (fun y hy => by have := (h.f y hy).1; omega) h.s x hx'
          have h2 := h.f x (List.mem_of_mem_drop hx')
          exact ⟨h1, by show x.q ≤ r.nx + 1 + _ + 15; omega, h2.2.2⟩
        · exact h.s.sublist (List.drop_sublist _ _)
      · split
        · rename_i hd0 hd1
          refine ⟨n0, by show r.nx ≤ _; omega, fun x hx => ?_, insM_sorted h.s, hk, hi0, hi1⟩
          rcases insM_mem hx with rfl | hx
          · exact ⟨by show r.nx < r.nx + _; omega, by show r.nx + _ ≤ r.nx + 15; omega, setQ_ok hf (by omega) (by omega), hb⟩
          · exact h.f x hx
        · split
          · exact ⟨n0, by show r.nx ≤ _; omega, h.f, h.s, hk, hi0, hi1⟩
          · exact ⟨n0, by show r.nx ≤ _; omega, h.f, h.s, hk, hi0, hi1⟩
theorem Rv.ok.mono {r : Rv} {B C : Int} (h : r.ok B) (hc : B ≤ C) : r.ok C := ⟨h.n0, by have := h.n1; omega, h.f, h.s, h.k, h.i0, by have := h.i1; omega⟩
theorem recvM_ok {r : Rv} {B : Int} (h : r.ok B) (hB : B ≤ 1000000000) {f : Fr} (hf : f.ok) : (recvM r f).1.ok (B + 5000) := by
  have n0 := h.n0; have n1 := h.n1; have i0 := h.i0; have i1 := h.i1
  unfold recvM
  split
  · exact h.mono (by omega)
  · rcases accept_cases r.l f.k (covL f) f.t with ⟨e, he, ha⟩ | ⟨h1, h2, h3, ha⟩
    · rw [ha, if_pos he]; exact h.mono (by omega)
    · rw [ha, if_neg (by simp)]
      exact recv2_ok h hB hf (by omega) (stepN_lt _) (by show 0 ≤ f.k + 1; omega) (by show f.k + 1 ≤ _; omega)
end Go.Proofs.YthoikljmokkchaaDoor
namespace Go.Proofs.YthoikljmokkchaaDoor
open Go.RowKit
theorem FrL.drop {K : Nat → Prop} {w : World} {xs : List Value} {l : List Fr} (h : FrL K w xs l) (k : Nat) : FrL K w (xs.drop (k * 5)) (l.drop k) := by
  refine ⟨by rw [List.length_drop, List.length_drop, h.1, Nat.sub_mul], fun i x hi => ?_⟩
  rw [List.getElem?_drop] at hi
  refine (h.2 (k + i) x hi).congr (fun j hj => ?_)
  simp only [List.getD, List.getElem?_drop]
  congr 2; omega
theorem FrL.take {K : Nat → Prop} {w : World} {xs : List Value} {l : List Fr} (h : FrL K w xs l) (k : Nat) : FrL K w (xs.take (k * 5)) (l.take k) := by
  refine ⟨by rw [List.length_take, List.length_take, h.1]; omega, fun i x hi => ?_⟩
  have hik : i < k := by
    have := (List.getElem?_eq_some_iff.1 hi).1
    rw [List.length_take] at this; omega
  rw [List.getElem?_take_of_lt hik] at hi
  refine (h.2 i x hi).congr (fun j hj => ?_)
  simp only [List.getD]
  rw [List.getElem?_take_of_lt (by omega)]
theorem frs_cut {K : Nat → Prop} {w : World} {a : Option Addr} {r c : Nat} {l : List Fr} (h : Frs K w (.slice a r c) l) (hl : l.length = r) (hr : 0 < r) :
    ∃ a2 c2, (∀ w, (Instr.slice 31 (.slice a r c) (some (.int .i64 1)) none none).run Tryd.prog w = .ok (.slice a2 (r - 1) c2) w) ∧ Frs K w (.slice a2 (r - 1) c2) (l.drop 1) := by
  obtain ⟨i0, zz, hi, hz0, hz1, hz2, hz3⟩ := fr_parts
  obtain ⟨xs, hrow, hfl⟩ := h
  rw [hl] at hrow
  obtain ⟨a2, c2, h1, h2⟩ := run_cut_from (P := Tryd.prog) (t := 31) Tryd.underlying31 hi hz1 hrow (lo := 1) 1 rfl (by omega)
  have e : (xs.drop (1 * 5)).take ((r - 1) * 5) = xs.drop (1 * 5) := List.take_of_length_le (by rw [List.length_drop, hfl.1, hl]; omega)
  rw [e] at h2
  exact ⟨a2, c2, h1, _, by rw [List.length_drop, hl]; exact h2, hfl.drop 1⟩
theorem bdp_lit {B : Nat} {W : World} {g m c : Nat} {a : Option Addr} {b : List Nat} {B0 : Nat} (h : Blk W g #[.slice a m c] 22) (hB : B ≤ g) (hs : Sl (fun b => b < B0) W (.slice a m c) (u8s b)) (hB0 : B0 ≤ B) : BdP (fun b => b < B0) B W (.slice (some ⟨g, 0, none⟩) 1 1) [b] := by
  refine ⟨[.slice a m c], ⟨⟨rfl, .inr ⟨g, 1, #[.slice a m c], rfl, Nat.zero_le _, h, Nat.le_refl _, by simp [maxLen], rfl, rfl⟩⟩, fun _ h => h⟩, fun b hb => ?_, BdL.one (hs.mono (fun b _ h => ⟨h, fun e => ?_⟩))⟩
  · injection hb with hb; simp at hb; omega
  · injection e with e; simp at e; omega
def slLen : Value → Nat
  | .slice _ n _ => n
  | _ => 0
def DelR (w : World) (K : Nat → Prop) (nx : Int) (fs : List Fr) (lk : Bool) (l : Ld) (b : List Nat) (j : Nat) (e : Ending) (w' : World) : Prop := ∃ a2 c2 a3 c3, e = .returned (.tuple #[.agg #[.int .i64 (nx + 1 + (j : Int)), .slice a2 (fs.drop j).length c2, .bool lk, .int .u64 (l.k : Int), .int .i64 l.i], .slice a3 (j + 1) c3]) ∧
  Frs (fun b => K b ∨ w.heap.size ≤ b) w' (.slice a2 (fs.drop j).length c2) (fs.drop j) ∧ Bds (fun b => w.heap.size ≤ b) w' (.slice a3 (j + 1) c3) (b :: (fs.take j).map (·.b)) ∧ Keeps (fun _ => False) w w'
set_option maxRecDepth 100000 in
set_option maxHeartbeats 4000000 in
theorem deliver_any (nx : Int) (fs : List Fr) (fa : Option Addr) (fc : Nat) (lk : Bool) (l : Ld) (b : List Nat) (K : Nat → Prop) (a : Option Addr) (c : Nat) (w : World) (hv : Frs K w (.slice fa fs.length fc) fs) (hK : ∀ b, K b → b < w.heap.size) (hs : Sl (fun _ => True) w (.slice a b.length c) (u8s b)) (hn : fs.length ≤ 1000) (hnx : 0 ≤ nx) (hnx2 : nx ≤ 1000000000) (hx : ∀ x ∈ fs, x.b.length ≤ 512) (hb : b.length ≤ 512) :
    Calls Tryd.prog 69 #[.agg #[.int .i64 nx, .slice fa fs.length fc, .bool lk, .int .u64 (l.k : Int), .int .i64 l.i], .slice a b.length c] w fun e w' => DelR w K nx fs lk l b (dlvN (nx + 1) fs) e w' := by
  obtain ⟨i0, hi, hz0, hz1, hz2⟩ := parts1 infoBd
  have HKW := hid hK
  have HV := hid hv
  have HS := hid (hs.mono (K' := fun b => b < w.heap.size) (fun b h _ => h))
  have HX := hid hx
  have HD : Hd (∀ j, j ≤ fs.length → (∀ (i : Nat) (y : Fr), i < j → fs[i]? = some y → y.q = nx + 1 + i) → (∀ (y : Fr), fs[j]? = some y → y.q ≠ nx + 1 + j) → dlvN (nx + 1) fs = j) := hid (dlvN_eq fs (nx + 1))
  clear hK hv hs hx
  obtain ⟨n, hnn⟩ : ∃ n, fs.length = n := ⟨_, rfl⟩
  have HN := hid hnn
  rw [hnn] at HV hn HD ⊢
  clear hnn
  obtain ⟨m, hmm⟩ : ∃ m, b.length = m := ⟨_, rfl⟩
  have HM := hid hmm
  rw [hmm] at HS hb ⊢
  clear hmm
  obtain ⟨k, i⟩ := l
  simp only [] at *
  obtain ⟨J, hJ⟩ : ∃ J, dlvN (nx + 1) fs = J := ⟨_, rfl⟩
  rw [hJ] at HD ⊢
  clear hJ
  go_enter Tryd.func69, Tryd.ntmps69
  go_upto_region 1 with fail
  generalize hW : World.alloc (World.alloc w _) _ = W1
  have KS : Hd (Keeps (fun _ => False) w W1) := hid (by rw [← hW]; exact (Keeps.alloc (Keeps.alloc (Keeps.refl (fun _ => False) w) _) _))
  have HV' : Hd (Frs K W1 (.slice fa n fc) fs) := hid (HV.out.keep KS.out (fun _ _ _ h => h))
  have HS' : Hd (Sl (fun b => b < w.heap.size) W1 (.slice a m c) (u8s b)) := hid (HS.out.keep KS.out (fun _ _ _ h => h))
  have BS : Hd (Blk W1 w.heap.size #[(.int .i64 nx), (.slice fa n fc), (.bool lk), (.int .u64 (k : Int)), (.int .i64 i)] 35) := hid (by rw [← hW]; exact (blk_alloc (blk_new _ _ _) _))
  have BR : Hd (Blk W1 (w.heap.size + 1) #[(.int .i64 0), (.slice none 0 0), (.bool false), (.int .u64 0), (.int .i64 0)] 35) := hid (by rw [← hW]; exact (blk_new' _ _ _ _ (by simp)))
  clear HV HS
  have HV := HV'
  clear HV'
  have HS := HS'
  clear HS'
  have HK : Hd (Keeps (fun _ => False) w W1) := hid KS.out
  have z_W1 : w.heap.size + 2 ≤ W1.heap.size := by rw [← hW]; simp
  clear hW KS
  go_upto_region 2 with fail
  have HG1 := HK.out.size
  generalize hW : World.alloc W1 _ = W2
  have KS : Hd (Keeps (fun _ => False) W1 W2) := hid (by rw [← hW]; exact (Keeps.alloc (Keeps.refl (fun _ => False) W1) _))
  have HV' : Hd (Frs K W2 (.slice fa n fc) fs) := hid (HV.out.keep KS.out (fun _ _ _ h => h))
  have HS' : Hd (Sl (fun b => b < w.heap.size) W2 (.slice a m c) (u8s b)) := hid (HS.out.keep KS.out (fun _ _ _ h => h))
  have BS' : Hd (Blk W2 w.heap.size #[(.int .i64 nx), (.slice fa n fc), (.bool lk), (.int .u64 (k : Int)), (.int .i64 i)] 35) := hid (by rw [← hW]; exact (blk_alloc BS.out _))
  have BR' : Hd (Blk W2 (w.heap.size + 1) #[(.int .i64 0), (.slice none 0 0), (.bool false), (.int .u64 0), (.int .i64 0)] 35) := hid (by rw [← hW]; exact (blk_alloc BR.out _))
  have BO : Hd (Blk W2 W1.heap.size #[(.slice a m c)] 22) := hid (by rw [← hW]; exact (blk_new _ _ _))
  clear HV HS BS BR
  have HV := HV'
  clear HV'
  have HS := HS'
  clear HS'
  have BS := BS'
  clear BS'
  have BR := BR'
  clear BR'
  have HK' : Hd (Keeps (fun _ => False) w W2) := hid (HK.out.trans KS.out)
  clear HK
  have HK := HK'
  clear HK'
  have z_W2 : W1.heap.size + 1 ≤ W2.heap.size := by rw [← hW]; simp
  clear hW KS
  have HOUT : Hd (BdP (fun b => b < w.heap.size) W1.heap.size W2 (.slice (some ⟨W1.heap.size, 0, none⟩) 1 1) [b]) := hid (bdp_lit BO.out (by omega) HS.out (by omega))
  have hw1 : IntKind.i64.wrap (nx + 1) = nx + 1 := IntWalk.i64_in _ (by omega)
  clear BO
  generalize hb_BR : w.heap.size + 1 = b_BR at *
  have lR : w.heap.size < b_BR ∧ b_BR < W1.heap.size := by omega
  have o_BS_0 : W2.cell? ⟨w.heap.size, 0, none⟩ = some ((.int .i64 nx)) := blk_cell BS.out 0
  have f_BS_0 : W2.frozen? ⟨w.heap.size, 0, none⟩ = false := blk_free BS.out 0
  go_upto_region 3 with fail
  clear o_BS_0 f_BS_0
  clear hw1
  generalize hW : World.setCell W2 _ _ = W3
  have KS : Hd (Keeps (fun b => b = w.heap.size) W2 W3) := hid (by rw [← hW]; exact (Keeps.setCell (S := fun b => b = w.heap.size) (Keeps.refl (fun b => b = w.heap.size) W2) (.inl rfl) _))
  have HV' : Hd (Frs K W3 (.slice fa n fc) fs) := hid (HV.out.keep KS.out (fun b _ h1 h2 => by have := HKW.out b h1; omega))
  have HS' : Hd (Sl (fun b => b < w.heap.size) W3 (.slice a m c) (u8s b)) := hid (HS.out.keep KS.out (fun b _ h1 h2 => by omega))
  have BS' : Hd (Blk W3 w.heap.size #[(.int .i64 (nx + 1)), (.slice fa n fc), (.bool lk), (.int .u64 (k : Int)), (.int .i64 i)] 35) := hid (by rw [← hW]; exact (blk_set BS.out 0 _))
  have BR' : Hd (Blk W3 b_BR #[(.int .i64 0), (.slice none 0 0), (.bool false), (.int .u64 0), (.int .i64 0)] 35) := hid (by rw [← hW]; exact (blk_other BR.out (by omega) _ _))
  have HOUT' : Hd (BdP (fun b => b < w.heap.size) W1.heap.size W3 (.slice (some ⟨W1.heap.size, 0, none⟩) 1 1) [b]) := hid (HOUT.out.keep KS.out (fun b h0 h1 h2 => by rcases h1 with h1 | h1 <;> omega))
  clear HV HS BS BR HOUT
  have HV := HV'
  clear HV'
  have HS := HS'
  clear HS'
  have BS := BS'
  clear BS'
  have BR := BR'
  clear BR'
  have HOUT := HOUT'
  clear HOUT'
  have HK' : Hd (Keeps (fun _ => False) w W3) := hid (HK.out.trans' KS.out (fun i hi h => by omega))
  clear HK
  have HK := HK'
  clear HK'
  have z_W3 : W2.heap.size + 0 ≤ W3.heap.size := by rw [← hW]; simp
  clear hW KS
  go_wp2_with fail
  go_loopw [6] (fun ov wr => ∃ (j r : Nat) (oa : Option Addr) (oc : Nat) (ra : Option Addr) (rc : Nat), ov = .slice oa (j + 1) oc ∧ j + r = n ∧ Hd (∀ (i : Nat) (y : Fr), i < j → fs[i]? = some y → y.q = nx + 1 + i) ∧ Hd (BdP (fun b => b < w.heap.size) W1.heap.size wr (.slice oa (j + 1) oc) (b :: (fs.take j).map (·.b))) ∧ Hd (Frs K wr (.slice ra r rc) (fs.drop j)) ∧ Hd (Blk wr w.heap.size #[.int .i64 (nx + 1 + (j : Int)), .slice ra r rc, .bool lk, .int .u64 (k : Int), .int .i64 i] 35) ∧ Hd (Keeps (fun b => b = w.heap.size ∨ W1.heap.size ≤ b) W3 wr)) (fun ov _ => n + 1 - slLen ov)
  case atStart => exact ⟨0, n, _, 1, fa, fc, rfl, by omega, hid (fun i y hi => by omega), hid (by rw [List.take_zero]; exact HOUT.out), hid HV.out, hid (by simpa using BS.out), hid (Keeps.refl _ _)⟩
  case round =>
    obtain ⟨V, rfl⟩ : ∃ V, V = wr := ⟨_, rfl⟩
    obtain ⟨j, r, oa, oc, ra, rc, rfl, hjr, HJ, HO, HF, HB, HX2⟩ := hrel
    have zV := HX2.out.size
    clear HOUT HV BS
    have BR2 := hid (blk_keep BR.out HX2.out (fun h => by omega))
    have KV : Hd (Keeps (fun _ => False) w V) := hid (HK.out.trans' HX2.out (fun b hb h => by omega))
    clear BR HK
    obtain ⟨Y, hY⟩ : ∃ Y, nx + 1 + (j : Int) = Y := ⟨_, rfl⟩
    have HY := hid hY
    have hY0 : 0 ≤ Y := by omega
    have hY1 : Y ≤ 1000002000 := by omega
    rw [hY] at HB
    clear hY
    have HFL : Hd ((fs.drop j).length = r) := hid (by rw [List.length_drop, HN.out]; omega)
    have o0 : V.cell? ⟨w.heap.size, 0, none⟩ = some (.int .i64 Y) := blk_cell HB.out 0
    have o1 : V.cell? ⟨w.heap.size, 1, none⟩ = some (.slice ra r rc) := blk_cell HB.out 1
    have HK := KV
    clear KV
    by_cases hr : r = 0
    · have q1 : ¬ ((0 : Int) < (r : Int)) := by omega
      have q2 : ¬ (0 < r) := by omega
      have HJN : Hd (j = n) := hid (by omega)
      clear hr
      go_upto_region 3 with fail
      go_quiet (fail)
      clear o0 o1
      generalize hV9 : World.drewN V _ = V9
      have hk : Keeps (fun _ => False) V V9 := by rw [← hV9]; exact (Keeps.refl _ _).drewN _
      have HX9 : Hd (Keeps (fun b => b = w.heap.size ∨ W1.heap.size ≤ b) W3 V9) := hid (HX2.out.trans' hk (fun _ _ h => h.elim))
      have K9 := hid hk
      clear hV9 HX2
      have HB' : Hd (Blk V9 w.heap.size #[(.int .i64 Y), (.slice ra r rc), (.bool lk), (.int .u64 (k : Int)), (.int .i64 i)] 35) := hid (blk_keep HB.out hk (fun h => h))
      have BR2' : Hd (Blk V9 b_BR #[(.int .i64 0), (.slice none 0 0), (.bool false), (.int .u64 0), (.int .i64 0)] 35) := hid (blk_keep BR2.out hk (fun h => h))
      have HO' : Hd (BdP (fun b => b < w.heap.size) W1.heap.size V9 (.slice oa (j + 1) oc) (b :: (fs.take j).map (·.b))) := hid (HO.out.keep hk (fun _ _ _ h => h))
      have HF' : Hd (Frs K V9 (.slice ra r rc) (fs.drop j)) := hid (HF.out.keep hk (fun _ _ _ h => h))
      clear HB BR2 HO HF
      have HB := HB'
      clear HB'
      have BR2 := BR2'
      clear BR2'
      have HO := HO'
      clear HO'
      have HF := HF'
      clear HF'
      have HK' : Hd (Keeps (fun _ => False) w V9) := hid (HK.out.trans hk)
      clear HK
      have HK := HK'
      clear HK'
      have z_V9 := hk.size
      clear hk
      have o1 : V9.cell? ⟨w.heap.size, 1, none⟩ = some ((.slice ra r rc)) := blk_cell HB.out 1
      have HJX : Hd (J = j) := hid (HD.out j (by omega) HJ.out (fun y hy => by rw [List.getElem?_eq_none (by rw [HN.out, HJN.out]; exact Nat.le_refl _)] at hy; cases hy))
      clear HD HJ
      go_wp2_with fail
      refine (CloneFr_any K _ (fs.drop j) _ HF.out (by rw [HFL.out]; omega)).mono ?_
      rw [HFL.out]
      rintro e V2 ⟨a2, c2, rfl, hp, hk⟩
      have HP2 : Hd (Frs (fun b => (K b ∧ b < V9.heap.size) ∨ V9.heap.size ≤ b) V2 (.slice a2 r c2) (fs.drop j)) := hid hp.sgs
      clear hp
      have z2 := hk.size
      have HB2 := hid (blk_keep HB.out hk (fun h => h))
      have BR3 := hid (blk_keep BR2.out hk (fun h => h))
      have HO2 : Hd (Bds (fun b => b < w.heap.size ∨ W1.heap.size ≤ b) V2 (.slice oa (j + 1) oc) (b :: (fs.take j).map (·.b))) := hid (HO.out.bds.keep hk (fun _ _ _ h => h))
      have KV2 : Hd (Keeps (fun _ => False) w V2) := hid (HK.out.trans hk)
      skip
      clear HO HF HB BR2 HK hk o1
      have s1 : V2.frozen? ⟨w.heap.size, 1, none⟩ = false := blk_free HB2.out 1
      have s2 : V2.cell? ⟨w.heap.size, 1, none⟩ = some ((.slice ra r rc)) := blk_cell HB2.out 1
      go_upto_region 8 with fail
      clear s1 s2
      have HLJ : Hd ((b :: (fs.take j).map (·.b)).length = j + 1) := hid (by rw [List.length_cons, List.length_map, List.length_take, HN.out]; omega)
      have HXB : Hd (∀ x ∈ b :: (fs.take j).map (·.b), x.length ≤ 1000000) := hid (fun x hx => by rcases List.mem_cons.1 hx with rfl | hx; (rw [HM.out]; omega); (obtain ⟨y, hy, rfl⟩ := List.mem_map.1 hx; have := HX.out y (List.mem_of_mem_take hy); omega))
      have z3 := KV2.out.size
      have HK := KV2
      clear KV2
      generalize hW : World.setCell V2 _ _ = W21
      have KS : Hd (Keeps (fun b => b = w.heap.size) V2 W21) := hid (by rw [← hW]; exact (Keeps.setCell (S := fun b => b = w.heap.size) (Keeps.refl (fun b => b = w.heap.size) V2) (.inl rfl) _))
      have HB2' : Hd (Blk W21 w.heap.size #[(.int .i64 Y), (.slice a2 r c2), (.bool lk), (.int .u64 (k : Int)), (.int .i64 i)] 35) := hid (by rw [← hW]; exact (blk_set HB2.out 1 _))
      have BR3' : Hd (Blk W21 b_BR #[(.int .i64 0), (.slice none 0 0), (.bool false), (.int .u64 0), (.int .i64 0)] 35) := hid (by rw [← hW]; exact (blk_other BR3.out (by omega) _ _))
      have HO2' : Hd (Bds (fun b => b < w.heap.size ∨ W1.heap.size ≤ b) W21 (.slice oa (j + 1) oc) (b :: (fs.take j).map (·.b))) := hid (HO2.out.keep KS.out (fun b _ h1 h2 => by rcases h1 with h1 | h1 <;> omega))
      have HP2' : Hd (Frs (fun b => (K b ∧ b < V9.heap.size) ∨ V9.heap.size ≤ b) W21 (.slice a2 r c2) (fs.drop j)) := hid (HP2.out.keep KS.out (fun b _ h1 h2 => h1.elim (fun g1 => by have := HKW.out b g1.1; omega) (fun (g1 : V9.heap.size ≤ b) => by omega)))
      clear HB2 BR3 HO2 HP2
      have HB2 := HB2'
      clear HB2'
      have BR3 := BR3'
      clear BR3'
      have HO2 := HO2'
      clear HO2'
      have HP2 := HP2'
      clear HP2'
      have HK' : Hd (Keeps (fun _ => False) w W21) := hid (HK.out.trans' KS.out (fun i hi h => by omega))
      clear HK
      have HK := HK'
      clear HK'
      have z_W21 : V2.heap.size + 0 ≤ W21.heap.size := by rw [← hW]; simp
      clear hW KS
      have HCC : Hd (∀ X, Keeps (fun _ => False) W21 X → Calls Tryd.prog 73 #[.slice oa (j + 1) oc] X fun e w' => ∃ a c, e = .returned (.slice a (j + 1) c) ∧ BdP (fun k => X.heap.size ≤ k) X.heap.size w' (.slice a (j + 1) c) (b :: (fs.take j).map (·.b)) ∧ Keeps (fun _ => False) X w') := hid (fun X hx => by have h := cloned_any _ _ _ X (HO2.out.keep hx (fun _ _ _ h => h)) (by rw [HLJ.out]; omega) HXB.out; rw [HLJ.out] at h; exact h)
      go_cut [5] from 47 to 49 (fun u5 wx => ∃ (a3 : Option Addr), ∃ (c3 : Nat), u5 = (.slice a3 (j + 1) c3) ∧ Hd (Blk wx b_BR #[(.int .i64 Y), (.slice a2 r c2), (.bool lk), (.int .u64 (k : Int)), (.int .i64 i)] 35) ∧ Hd (Bds (fun b => W21.heap.size ≤ b) wx (.slice a3 (j + 1) c3) (b :: (fs.take j).map (·.b))) ∧ Hd (Keeps (fun b => b = b_BR) W21 wx))
      case first =>
        have KC : Hd (Keeps (fun _ => False) W21 W21) := hid (Keeps.refl _ _)
        have HSS : Hd (∀ w', Keeps (fun b => b = b_BR) W21 w' → (w'.cell? ⟨w.heap.size, 0, none⟩ = some ((.int .i64 Y)) ∧ w'.cell? ⟨w.heap.size, 1, none⟩ = some ((.slice a2 r c2)) ∧ w'.cell? ⟨w.heap.size, 2, none⟩ = some ((.bool lk)) ∧ w'.cell? ⟨w.heap.size, 3, none⟩ = some ((.int .u64 (k : Int))) ∧ w'.cell? ⟨w.heap.size, 4, none⟩ = some ((.int .i64 i)))) := hid (fun w' hk => ⟨blk_cell (blk_keep HB2.out hk (fun h => by omega)) 0, blk_cell (blk_keep HB2.out hk (fun h => by omega)) 1, blk_cell (blk_keep HB2.out hk (fun h => by omega)) 2, blk_cell (blk_keep HB2.out hk (fun h => by omega)) 3, blk_cell (blk_keep HB2.out hk (fun h => by omega)) 4⟩)
        have sF_BR3_0 : W21.cell? ⟨b_BR, 0, none⟩ = some ((.int .i64 0)) := blk_cell (blk_keep BR3.out KC.out (fun h => h)) 0
        have sG_BR3_0 : W21.frozen? ⟨b_BR, 0, none⟩ = false := blk_free (blk_keep BR3.out KC.out (fun h => h)) 0
        have sF_BR3_1 : W21.cell? ⟨b_BR, 1, none⟩ = some ((.slice none 0 0)) := blk_cell (blk_keep BR3.out KC.out (fun h => h)) 1
        have sG_BR3_1 : W21.frozen? ⟨b_BR, 1, none⟩ = false := blk_free (blk_keep BR3.out KC.out (fun h => h)) 1
        have sF_BR3_2 : W21.cell? ⟨b_BR, 2, none⟩ = some ((.bool false)) := blk_cell (blk_keep BR3.out KC.out (fun h => h)) 2
        have sG_BR3_2 : W21.frozen? ⟨b_BR, 2, none⟩ = false := blk_free (blk_keep BR3.out KC.out (fun h => h)) 2
        have sF_BR3_3 : W21.cell? ⟨b_BR, 3, none⟩ = some ((.int .u64 0)) := blk_cell (blk_keep BR3.out KC.out (fun h => h)) 3
        have sG_BR3_3 : W21.frozen? ⟨b_BR, 3, none⟩ = false := blk_free (blk_keep BR3.out KC.out (fun h => h)) 3
        have sF_BR3_4 : W21.cell? ⟨b_BR, 4, none⟩ = some ((.int .i64 0)) := blk_cell (blk_keep BR3.out KC.out (fun h => h)) 4
        have sG_BR3_4 : W21.frozen? ⟨b_BR, 4, none⟩ = false := blk_free (blk_keep BR3.out KC.out (fun h => h)) 4
        have LB_BR3 : ∀ X, Blk X b_BR #[(.int .i64 0), (.slice none 0 0), (.bool false), (.int .u64 0), (.int .i64 0)] 35 → Blk (((((X.setCell ⟨b_BR, 0, none⟩ (.int .i64 Y)).setCell ⟨b_BR, 1, none⟩ (.slice a2 r c2)).setCell ⟨b_BR, 2, none⟩ (.bool lk)).setCell ⟨b_BR, 3, none⟩ (.int .u64 (k : Int))).setCell ⟨b_BR, 4, none⟩ (.int .i64 i)) b_BR #[(.int .i64 Y), (.slice a2 r c2), (.bool lk), (.int .u64 (k : Int)), (.int .i64 i)] 35 := fun X h => (blk_set (blk_set (blk_set (blk_set (blk_set h 0 _) 1 _) 2 _) 3 _) 4 _)
        go_region_held (fun w' => w'.cell? ⟨w.heap.size, 0, none⟩ = some ((.int .i64 Y)) ∧ w'.cell? ⟨w.heap.size, 1, none⟩ = some ((.slice a2 r c2)) ∧ w'.cell? ⟨w.heap.size, 2, none⟩ = some ((.bool lk)) ∧ w'.cell? ⟨w.heap.size, 3, none⟩ = some ((.int .u64 (k : Int))) ∧ w'.cell? ⟨w.heap.size, 4, none⟩ = some ((.int .i64 i))) (exact HSS.out _ (by repeat (first | (with_reducible refine Keeps.setCell (S := fun b => b = b_BR) ?_ (.inl (by simp)) _) | (with_reducible apply Keeps.drewN) | (with_reducible apply Keeps.drew) | (with_reducible exact KC.out) | (with_reducible exact Keeps.refl _ _) | (with_reducible exact KC.out.mono (fun _ _ h => h.elim)))))
          (first
          | (go_at_call 73; (refine (HCC.out _ (by repeat (first | (with_reducible exact KC.out) | (with_reducible exact Keeps.refl _ _) | (with_reducible apply Keeps.drewN) | (with_reducible apply Keeps.drew) | (with_reducible apply Keeps.alloc)))).mono ?_); rintro e wy0 ⟨a3, c3, rfl, hp3, hk⟩; have KC2 : Hd (Keeps (fun _ => False) W21 wy0) := hid (Keeps.trans (S := fun _ => False) (by repeat (first | (with_reducible exact KC.out) | (with_reducible exact Keeps.refl _ _) | (with_reducible apply Keeps.drewN) | (with_reducible apply Keeps.drew) | (with_reducible apply Keeps.alloc))) hk); have zc := KC.out.size; have zk := hk.size; (try simp at zk); have HP3 : Hd (∀ X, Keeps (fun b => b = b_BR) wy0 X → Bds (fun b => W21.heap.size ≤ b) X (.slice a3 (j + 1) c3) (b :: (fs.take j).map (·.b))) := hid (fun X hx => ((hp3.bds.keep hx (fun b _ h1 h2 => by rcases h1 with h1 | h1 <;> (have h1' := h1; (try simp at h1'); omega))).mono (fun b _ h => by rcases h with h | h <;> (have h' := h; (try simp at h'); omega)))); clear hp3; replace KC := KC2; clear KC2; have sF_BR3_0 : wy0.cell? ⟨b_BR, 0, none⟩ = some ((.int .i64 0)) := blk_cell (blk_keep BR3.out KC.out (fun h => h)) 0; have sG_BR3_0 : wy0.frozen? ⟨b_BR, 0, none⟩ = false := blk_free (blk_keep BR3.out KC.out (fun h => h)) 0; have sF_BR3_1 : wy0.cell? ⟨b_BR, 1, none⟩ = some ((.slice none 0 0)) := blk_cell (blk_keep BR3.out KC.out (fun h => h)) 1; have sG_BR3_1 : wy0.frozen? ⟨b_BR, 1, none⟩ = false := blk_free (blk_keep BR3.out KC.out (fun h => h)) 1; have sF_BR3_2 : wy0.cell? ⟨b_BR, 2, none⟩ = some ((.bool false)) := blk_cell (blk_keep BR3.out KC.out (fun h => h)) 2; have sG_BR3_2 : wy0.frozen? ⟨b_BR, 2, none⟩ = false := blk_free (blk_keep BR3.out KC.out (fun h => h)) 2; have sF_BR3_3 : wy0.cell? ⟨b_BR, 3, none⟩ = some ((.int .u64 0)) := blk_cell (blk_keep BR3.out KC.out (fun h => h)) 3; have sG_BR3_3 : wy0.frozen? ⟨b_BR, 3, none⟩ = false := blk_free (blk_keep BR3.out KC.out (fun h => h)) 3; have sF_BR3_4 : wy0.cell? ⟨b_BR, 4, none⟩ = some ((.int .i64 0)) := blk_cell (blk_keep BR3.out KC.out (fun h => h)) 4; have sG_BR3_4 : wy0.frozen? ⟨b_BR, 4, none⟩ = false := blk_free (blk_keep BR3.out KC.out (fun h => h)) 4; replace hk := hid hk))
        all_goals
          go_wp2_with fail
          go_meet
          exact ⟨a3, c3, rfl, hid (by repeat (first | (with_reducible refine LB_BR3 _ ?_) | (with_reducible refine blk_other ?_ (by first | omega | (simp only [World.size_alloc, World.size_drew]; omega)) _ _) | (with_reducible apply blk_drewN) | (with_reducible apply blk_drew) | (with_reducible refine blk_alloc ?_ _) | (with_reducible exact blk_keep BR3.out KC.out (fun h => h)))), hid (HP3.out _ (by repeat (first | (with_reducible exact Keeps.refl _ _) | (with_reducible apply Keeps.drewN) | (with_reducible apply Keeps.drew) | (refine Keeps.setCell (S := fun b => b = b_BR) ?_ (.inl rfl) _)))), hid (by repeat (first | (with_reducible refine Keeps.setCell (S := fun b => b = b_BR) ?_ (.inl (by simp)) _) | (with_reducible apply Keeps.drewN) | (with_reducible apply Keeps.drew) | (with_reducible exact KC.out) | (with_reducible exact Keeps.refl _ _) | (with_reducible exact KC.out.mono (fun _ _ h => h.elim))))⟩
      case rest =>
        obtain ⟨a3, c3, rfl, N_BR3, M_0, hk⟩ := hcut
        replace hk := hk.out
        generalize wc = W22 at *
        have HB2' : Hd (Blk W22 w.heap.size #[(.int .i64 Y), (.slice a2 r c2), (.bool lk), (.int .u64 (k : Int)), (.int .i64 i)] 35) := hid (blk_keep HB2.out hk (fun h => by omega))
        have HO2' : Hd (Bds (fun b => b < w.heap.size ∨ W1.heap.size ≤ b) W22 (.slice oa (j + 1) oc) (b :: (fs.take j).map (·.b))) := hid (HO2.out.keep hk (fun b _ h1 h2 => by rcases h1 with h1 | h1 <;> omega))
        have HP2' : Hd (Frs (fun b => (K b ∧ b < V9.heap.size) ∨ V9.heap.size ≤ b) W22 (.slice a2 r c2) (fs.drop j)) := hid (HP2.out.keep hk (fun b _ h1 h2 => h1.elim (fun g1 => by have := HKW.out b g1.1; omega) (fun (g1 : V9.heap.size ≤ b) => by omega)))
        clear HB2 HO2 HP2
        have HB2 := HB2'
        clear HB2'
        have HO2 := HO2'
        clear HO2'
        have HP2 := HP2'
        clear HP2'
        clear BR3
        have BR3 := N_BR3
        clear N_BR3
        have HK' : Hd (Keeps (fun _ => False) w W22) := hid (HK.out.trans' hk (fun i hi h => by omega))
        clear HK
        have HK := HK'
        clear HK'
        have z_W22 := hk.size
        clear hk
        go_wp2
        have rr_BR3_0 := blk_cell BR3.out 0
        have rr_BR3_1 := blk_cell BR3.out 1
        have rr_BR3_2 := blk_cell BR3.out 2
        have rr_BR3_3 := blk_cell BR3.out 3
        have rr_BR3_4 := blk_cell BR3.out 4
        refine bodyPost_ret (v := .tuple #[.agg #[(.int .i64 Y), (.slice a2 r c2), (.bool lk), (.int .u64 (k : Int)), (.int .i64 i)], .slice a3 (j + 1) c3]) (by simp [results, Tryd.results69, go_sem, rr_BR3_0, rr_BR3_1, rr_BR3_2, rr_BR3_3, rr_BR3_4]) rfl ?_
        rw [HJX.out, ← HY.out]
        refine ⟨a2, c2, a3, c3, by rw [HFL.out], ?_, ?_, HK.out⟩
        · rw [HFL.out]; exact HP2.out.mono (fun b _ h => by rcases h with h | h; exact .inl h.1; exact .inr (by omega))
        · exact M_0.out.mono (fun b _ h => by omega)
    · have hr0 : 0 < r := by omega
      clear hr
      have q1 : (0 : Int) < (r : Int) := by omega
      obtain ⟨bx, ox, rfl, hbx, -, hc⟩ := frs_cells HF.out (by rw [HFL.out]; exact hr0)
      obtain ⟨x, hx⟩ : ∃ x, fs[j]? = some x := ⟨fs[j]'(by rw [HN.out]; omega), List.getElem?_eq_getElem _⟩
      obtain ⟨e0, -, -, -, ad, cd, e3, hsx⟩ := hc 0 x (by rw [List.getElem?_drop]; exact hx)
      rw [Nat.zero_mul, Nat.add_zero] at e0 e3
      have HXJ := hid hx
      have HSX := hid hsx
      clear hc hsx hx
      by_cases hq : x.q = Y
      · rw [hq] at e0
        have hyy : (Y == Y) = true := by simp
        have e3' := hid e3
        clear e3
        go_upto_region 3 with fail
        go_quiet (fail)
        clear o0 o1
        generalize hV9 : World.drewN V _ = V9
        have hk : Keeps (fun _ => False) V V9 := by rw [← hV9]; exact (Keeps.refl _ _).drewN _
        have HX9 : Hd (Keeps (fun b => b = w.heap.size ∨ W1.heap.size ≤ b) W3 V9) := hid (HX2.out.trans' hk (fun _ _ h => h.elim))
        have K9 := hid hk
        clear hV9 HX2
        have HB' : Hd (Blk V9 w.heap.size #[(.int .i64 Y), (.slice (some ⟨bx, ox, none⟩) r rc), (.bool lk), (.int .u64 (k : Int)), (.int .i64 i)] 35) := hid (blk_keep HB.out hk (fun h => h))
        have BR2' : Hd (Blk V9 b_BR #[(.int .i64 0), (.slice none 0 0), (.bool false), (.int .u64 0), (.int .i64 0)] 35) := hid (blk_keep BR2.out hk (fun h => h))
        have HO' : Hd (BdP (fun b => b < w.heap.size) W1.heap.size V9 (.slice oa (j + 1) oc) (b :: (fs.take j).map (·.b))) := hid (HO.out.keep hk (fun _ _ _ h => h))
        have HF' : Hd (Frs K V9 (.slice (some ⟨bx, ox, none⟩) r rc) (fs.drop j)) := hid (HF.out.keep hk (fun _ _ _ h => h))
        have HSX' : Hd (Sl K V9 (.slice ad x.b.length cd) (u8s x.b)) := hid (HSX.out.keep hk (fun _ _ _ h => h))
        clear HB BR2 HO HF HSX
        have HB := HB'
        clear HB'
        have BR2 := BR2'
        clear BR2'
        have HO := HO'
        clear HO'
        have HF := HF'
        clear HF'
        have HSX := HSX'
        clear HSX'
        have HK' : Hd (Keeps (fun _ => False) w V9) := hid (HK.out.trans hk)
        clear HK
        have HK := HK'
        clear HK'
        have z_V9 := hk.size
        clear hk
        have o1 : V9.cell? ⟨w.heap.size, 1, none⟩ = some ((.slice (some ⟨bx, ox, none⟩) r rc)) := blk_cell HB.out 1
        have e3 := keep_cell (K9.out) (fun h => h) e3'.out
        clear e3' e0
        obtain ⟨xs, hO, hge, hB⟩ := HO.out
        have HOL : Hd ((b :: (fs.take j).map (·.b)).length = j + 1) := hid (by rw [List.length_cons, List.length_map, List.length_take, HN.out]; omega)
        rw [HOL.out] at hO
        have HLT : Hd (∀ b, (Value.slice oa (j + 1) oc).ownBlock = some b → b < V9.heap.size) := hid (bdp_lt HO.out)
        have HOX := hid hO; have HGE := hid hge; have HBX := hid hB
        clear hO hge hB HO
        have HXL : Hd (x.b.length ≤ 512) := hid (HX.out x (List.mem_of_getElem? HXJ.out))
        obtain ⟨xl, hxl⟩ : ∃ xl, x.b.length = xl := ⟨_, rfl⟩
        have HXLL := hid hxl
        rw [hxl] at e3
        clear hxl
        go_wp2_with (at_builtin; refine wpList_append_row rfl _ _ 43 rfl 22 i0 (.slice none 0 0) 1 24 Tryd.underlying43 hi hz0 hz1 hz2 rfl (by decide) _ (fun _ => True) _ _ _ _ rfl (HOX.out.alloc _) 1 _ rfl (one_src _ _ _) (by intro u hu; simp at hu; subst hu; rfl) ?h1 ?h2 ?_)
        case h1 => simp [maxLen]; omega
        case h2 => omega
        intro a3 c3 w1 hown hgrow; try intro _
        have hk : Keeps (fun b => (Value.slice oa (j + 1) oc).ownBlock = some b) V9 w1 := (keeps_alloc _ _ (.cells #[.slice ad xl cd] 22)).trans hgrow
        have HO1 : Hd (BdP (fun b => b < w.heap.size) W1.heap.size w1 (.slice a3 (j + 1 + 1) c3) (b :: (fs.take (j + 1)).map (·.b))) := hid (by
          rw [show b :: (fs.take (j + 1)).map (·.b) = (b :: (fs.take j).map (·.b)) ++ [x.b] by rw [List.take_add_one, HXJ.out]; simp]
          refine bdp_append (v := .slice oa (j + 1) oc) (ns := [.slice ad xl cd]) HGE.out HBX.out (keeps_alloc _ _ (.cells #[.slice ad xl cd] 22)) (BdL.one ((((by have h := HSX.out; rw [HXLL.out] at h; exact h : Sl K V9 (.slice ad xl cd) (u8s x.b))).keep (keeps_alloc (fun _ => False) _ _) (fun _ _ _ h => h)).mono (fun b _ h => ⟨HKW.out b h, fun e => by have := HGE.out b e; have := HKW.out b h; omega⟩))) (by simp; omega) ?_ (by first | exact hgrow | exact hgrow.mono (fun _ _ h => h))
          rw [HOL.out]
          first | exact hown | simpa using hown)
        have HB1 := hid (blk_keep HB.out hk (fun h => by have := HGE.out _ h; omega))
        have HF1 := hid (HF.out.keep hk (fun b _ h1 h2 => by have := HGE.out _ h2; have := HKW.out b h1; omega))
        have HK1 : Hd (Keeps (fun b => b = w.heap.size ∨ W1.heap.size ≤ b) W3 w1) := hid (HX9.out.trans' hk (fun b _ h => .inr (HGE.out b h)))
        clear hown hgrow HOX HBX hk o1 e3 HB HF HX9
        obtain ⟨a5, c5, hcut, hfr⟩ := frs_cut HF1.out HFL.out hr0
        have HFR := hid hfr
        clear hfr
        have p0 : w1.cell? ⟨w.heap.size, 0, none⟩ = some (.int .i64 Y) := blk_cell HB1.out 0
        have p1 : w1.cell? ⟨w.heap.size, 1, none⟩ = some (.slice (some ⟨bx, ox, none⟩) r rc) := blk_cell HB1.out 1
        have p2 := blk_free HB1.out 0
        have p3 := blk_free HB1.out 1
        have hw2 : IntKind.i64.wrap (Y + 1) = Y + 1 := IntWalk.i64_in _ (by omega)
        go_wp2
        go_roundw
        case rel =>
          have k5 : Keeps (fun b => b = w.heap.size) w1 ((w1.setCell ⟨w.heap.size, 1, none⟩ (.slice a5 (r - 1) c5)).setCell ⟨w.heap.size, 0, none⟩ (.int .i64 (Y + 1))) := ((Keeps.refl (fun b => b = w.heap.size) w1).setCell (p := ⟨w.heap.size, 1, none⟩) (.inl rfl) _).setCell (p := ⟨w.heap.size, 0, none⟩) (.inl rfl) _
          refine ⟨j + 1, r - 1, a3, c3, a5, c5, by first | rfl | go_num, by omega, hid (fun i y hi hy => ?_), hid ?_, hid ?_, hid ?_, hid ?_⟩
          · rcases Nat.lt_or_ge i j with h | h
            · exact HJ.out i y h hy
            · obtain rfl : i = j := by omega
              rw [HXJ.out] at hy; injection hy with hy; subst hy; rw [hq, ← HY.out]
          · exact HO1.out.keep k5 (fun b _ h1 h2 => by rcases h1 with h1 | h1 <;> omega)
          · rw [show fs.drop (j + 1) = (fs.drop j).drop 1 by rw [List.drop_drop]]; exact HFR.out.keep k5 (fun b _ h1 h2 => by have := HKW.out b h1; omega)
          · have h := blk_set (blk_set HB1.out 1 (.slice a5 (r - 1) c5)) 0 (.int .i64 (Y + 1))
            simp only [List.setIfInBounds_toArray, List.set_cons_zero, List.set_cons_succ] at h
            rw [show nx + 1 + ((j + 1 : Nat) : Int) = Y + 1 by rw [← HY.out]; push_cast; omega]; exact h
          · exact HK1.out.trans' k5 (fun b _ h => .inl h)
        case measure => simp [slLen]; omega
      · have hne : (x.q == Y) = false := by simp; omega
        obtain ⟨xq, hxq⟩ : ∃ xq, x.q = xq := ⟨_, rfl⟩
        rw [hxq] at e0 hne hq
        have HXQ := hid hxq
        clear hxq
        go_upto_region 3 with fail
        go_quiet (fail)
        clear o0 o1
        generalize hV9 : World.drewN V _ = V9
        have hk : Keeps (fun _ => False) V V9 := by rw [← hV9]; exact (Keeps.refl _ _).drewN _
        have HX9 : Hd (Keeps (fun b => b = w.heap.size ∨ W1.heap.size ≤ b) W3 V9) := hid (HX2.out.trans' hk (fun _ _ h => h.elim))
        have K9 := hid hk
        clear hV9 HX2
        have HB' : Hd (Blk V9 w.heap.size #[(.int .i64 Y), (.slice (some ⟨bx, ox, none⟩) r rc), (.bool lk), (.int .u64 (k : Int)), (.int .i64 i)] 35) := hid (blk_keep HB.out hk (fun h => h))
        have BR2' : Hd (Blk V9 b_BR #[(.int .i64 0), (.slice none 0 0), (.bool false), (.int .u64 0), (.int .i64 0)] 35) := hid (blk_keep BR2.out hk (fun h => h))
        have HO' : Hd (BdP (fun b => b < w.heap.size) W1.heap.size V9 (.slice oa (j + 1) oc) (b :: (fs.take j).map (·.b))) := hid (HO.out.keep hk (fun _ _ _ h => h))
        have HF' : Hd (Frs K V9 (.slice (some ⟨bx, ox, none⟩) r rc) (fs.drop j)) := hid (HF.out.keep hk (fun _ _ _ h => h))
        clear HB BR2 HO HF
        have HB := HB'
        clear HB'
        have BR2 := BR2'
        clear BR2'
        have HO := HO'
        clear HO'
        have HF := HF'
        clear HF'
        have HK' : Hd (Keeps (fun _ => False) w V9) := hid (HK.out.trans hk)
        clear HK
        have HK := HK'
        clear HK'
        have z_V9 := hk.size
        clear hk
        have o1 : V9.cell? ⟨w.heap.size, 1, none⟩ = some ((.slice (some ⟨bx, ox, none⟩) r rc)) := blk_cell HB.out 1
        clear e0 e3 hne
        have HJX : Hd (J = j) := hid (HD.out j (by omega) HJ.out (fun y hy => by rw [HXJ.out] at hy; injection hy with hy; subst hy; rw [HXQ.out, HY.out]; exact hq))
        clear HD HJ
        go_wp2_with fail
        refine (CloneFr_any K _ (fs.drop j) _ HF.out (by rw [HFL.out]; omega)).mono ?_
        rw [HFL.out]
        rintro e V2 ⟨a2, c2, rfl, hp, hk⟩
        have HP2 : Hd (Frs (fun b => (K b ∧ b < V9.heap.size) ∨ V9.heap.size ≤ b) V2 (.slice a2 r c2) (fs.drop j)) := hid hp.sgs
        clear hp
        have z2 := hk.size
        have HB2 := hid (blk_keep HB.out hk (fun h => h))
        have BR3 := hid (blk_keep BR2.out hk (fun h => h))
        have HO2 : Hd (Bds (fun b => b < w.heap.size ∨ W1.heap.size ≤ b) V2 (.slice oa (j + 1) oc) (b :: (fs.take j).map (·.b))) := hid (HO.out.bds.keep hk (fun _ _ _ h => h))
        have KV2 : Hd (Keeps (fun _ => False) w V2) := hid (HK.out.trans hk)
        skip
        clear HO HF HB BR2 HK hk o1
        have s1 : V2.frozen? ⟨w.heap.size, 1, none⟩ = false := blk_free HB2.out 1
        have s2 : V2.cell? ⟨w.heap.size, 1, none⟩ = some ((.slice (some ⟨bx, ox, none⟩) r rc)) := blk_cell HB2.out 1
        go_upto_region 8 with fail
        clear s1 s2
        have HLJ : Hd ((b :: (fs.take j).map (·.b)).length = j + 1) := hid (by rw [List.length_cons, List.length_map, List.length_take, HN.out]; omega)
        have HXB : Hd (∀ x ∈ b :: (fs.take j).map (·.b), x.length ≤ 1000000) := hid (fun x hx => by rcases List.mem_cons.1 hx with rfl | hx; (rw [HM.out]; omega); (obtain ⟨y, hy, rfl⟩ := List.mem_map.1 hx; have := HX.out y (List.mem_of_mem_take hy); omega))
        have z3 := KV2.out.size
        have HK := KV2
        clear KV2
        generalize hW : World.setCell V2 _ _ = W21
        have KS : Hd (Keeps (fun b => b = w.heap.size) V2 W21) := hid (by rw [← hW]; exact (Keeps.setCell (S := fun b => b = w.heap.size) (Keeps.refl (fun b => b = w.heap.size) V2) (.inl rfl) _))
        have HB2' : Hd (Blk W21 w.heap.size #[(.int .i64 Y), (.slice a2 r c2), (.bool lk), (.int .u64 (k : Int)), (.int .i64 i)] 35) := hid (by rw [← hW]; exact (blk_set HB2.out 1 _))
        have BR3' : Hd (Blk W21 b_BR #[(.int .i64 0), (.slice none 0 0), (.bool false), (.int .u64 0), (.int .i64 0)] 35) := hid (by rw [← hW]; exact (blk_other BR3.out (by omega) _ _))
        have HO2' : Hd (Bds (fun b => b < w.heap.size ∨ W1.heap.size ≤ b) W21 (.slice oa (j + 1) oc) (b :: (fs.take j).map (·.b))) := hid (HO2.out.keep KS.out (fun b _ h1 h2 => by rcases h1 with h1 | h1 <;> omega))
        have HP2' : Hd (Frs (fun b => (K b ∧ b < V9.heap.size) ∨ V9.heap.size ≤ b) W21 (.slice a2 r c2) (fs.drop j)) := hid (HP2.out.keep KS.out (fun b _ h1 h2 => h1.elim (fun g1 => by have := HKW.out b g1.1; omega) (fun (g1 : V9.heap.size ≤ b) => by omega)))
        clear HB2 BR3 HO2 HP2
        have HB2 := HB2'
        clear HB2'
        have BR3 := BR3'
        clear BR3'
        have HO2 := HO2'
        clear HO2'
        have HP2 := HP2'
        clear HP2'
        have HK' : Hd (Keeps (fun _ => False) w W21) := hid (HK.out.trans' KS.out (fun i hi h => by omega))
        clear HK
        have HK := HK'
        clear HK'
        have z_W21 : V2.heap.size + 0 ≤ W21.heap.size := by rw [← hW]; simp
        clear hW KS
        have HCC : Hd (∀ X, Keeps (fun _ => False) W21 X → Calls Tryd.prog 73 #[.slice oa (j + 1) oc] X fun e w' => ∃ a c, e = .returned (.slice a (j + 1) c) ∧ BdP (fun k => X.heap.size ≤ k) X.heap.size w' (.slice a (j + 1) c) (b :: (fs.take j).map (·.b)) ∧ Keeps (fun _ => False) X w') := hid (fun X hx => by have h := cloned_any _ _ _ X (HO2.out.keep hx (fun _ _ _ h => h)) (by rw [HLJ.out]; omega) HXB.out; rw [HLJ.out] at h; exact h)
        go_cut [5] from 47 to 49 (fun u5 wx => ∃ (a3 : Option Addr), ∃ (c3 : Nat), u5 = (.slice a3 (j + 1) c3) ∧ Hd (Blk wx b_BR #[(.int .i64 Y), (.slice a2 r c2), (.bool lk), (.int .u64 (k : Int)), (.int .i64 i)] 35) ∧ Hd (Bds (fun b => W21.heap.size ≤ b) wx (.slice a3 (j + 1) c3) (b :: (fs.take j).map (·.b))) ∧ Hd (Keeps (fun b => b = b_BR) W21 wx))
        case first =>
          have KC : Hd (Keeps (fun _ => False) W21 W21) := hid (Keeps.refl _ _)
          have HSS : Hd (∀ w', Keeps (fun b => b = b_BR) W21 w' → (w'.cell? ⟨w.heap.size, 0, none⟩ = some ((.int .i64 Y)) ∧ w'.cell? ⟨w.heap.size, 1, none⟩ = some ((.slice a2 r c2)) ∧ w'.cell? ⟨w.heap.size, 2, none⟩ = some ((.bool lk)) ∧ w'.cell? ⟨w.heap.size, 3, none⟩ = some ((.int .u64 (k : Int))) ∧ w'.cell? ⟨w.heap.size, 4, none⟩ = some ((.int .i64 i)))) := hid (fun w' hk => ⟨blk_cell (blk_keep HB2.out hk (fun h => by omega)) 0, blk_cell (blk_keep HB2.out hk (fun h => by omega)) 1, blk_cell (blk_keep HB2.out hk (fun h => by omega)) 2, blk_cell (blk_keep HB2.out hk (fun h => by omega)) 3, blk_cell (blk_keep HB2.out hk (fun h => by omega)) 4⟩)
          have sF_BR3_0 : W21.cell? ⟨b_BR, 0, none⟩ = some ((.int .i64 0)) := blk_cell (blk_keep BR3.out KC.out (fun h => h)) 0
          have sG_BR3_0 : W21.frozen? ⟨b_BR, 0, none⟩ = false := blk_free (blk_keep BR3.out KC.out (fun h => h)) 0
          have sF_BR3_1 : W21.cell? ⟨b_BR, 1, none⟩ = some ((.slice none 0 0)) := blk_cell (blk_keep BR3.out KC.out (fun h => h)) 1
          have sG_BR3_1 : W21.frozen? ⟨b_BR, 1, none⟩ = false := blk_free (blk_keep BR3.out KC.out (fun h => h)) 1
          have sF_BR3_2 : W21.cell? ⟨b_BR, 2, none⟩ = some ((.bool false)) := blk_cell (blk_keep BR3.out KC.out (fun h => h)) 2
          have sG_BR3_2 : W21.frozen? ⟨b_BR, 2, none⟩ = false := blk_free (blk_keep BR3.out KC.out (fun h => h)) 2
          have sF_BR3_3 : W21.cell? ⟨b_BR, 3, none⟩ = some ((.int .u64 0)) := blk_cell (blk_keep BR3.out KC.out (fun h => h)) 3
          have sG_BR3_3 : W21.frozen? ⟨b_BR, 3, none⟩ = false := blk_free (blk_keep BR3.out KC.out (fun h => h)) 3
          have sF_BR3_4 : W21.cell? ⟨b_BR, 4, none⟩ = some ((.int .i64 0)) := blk_cell (blk_keep BR3.out KC.out (fun h => h)) 4
          have sG_BR3_4 : W21.frozen? ⟨b_BR, 4, none⟩ = false := blk_free (blk_keep BR3.out KC.out (fun h => h)) 4
          have LB_BR3 : ∀ X, Blk X b_BR #[(.int .i64 0), (.slice none 0 0), (.bool false), (.int .u64 0), (.int .i64 0)] 35 → Blk (((((X.setCell ⟨b_BR, 0, none⟩ (.int .i64 Y)).setCell ⟨b_BR, 1, none⟩ (.slice a2 r c2)).setCell ⟨b_BR, 2, none⟩ (.bool lk)).setCell ⟨b_BR, 3, none⟩ (.int .u64 (k : Int))).setCell ⟨b_BR, 4, none⟩ (.int .i64 i)) b_BR #[(.int .i64 Y), (.slice a2 r c2), (.bool lk), (.int .u64 (k : Int)), (.int .i64 i)] 35 := fun X h => (blk_set (blk_set (blk_set (blk_set (blk_set h 0 _) 1 _) 2 _) 3 _) 4 _)
          go_region_held (fun w' => w'.cell? ⟨w.heap.size, 0, none⟩ = some ((.int .i64 Y)) ∧ w'.cell? ⟨w.heap.size, 1, none⟩ = some ((.slice a2 r c2)) ∧ w'.cell? ⟨w.heap.size, 2, none⟩ = some ((.bool lk)) ∧ w'.cell? ⟨w.heap.size, 3, none⟩ = some ((.int .u64 (k : Int))) ∧ w'.cell? ⟨w.heap.size, 4, none⟩ = some ((.int .i64 i))) (exact HSS.out _ (by repeat (first | (with_reducible refine Keeps.setCell (S := fun b => b = b_BR) ?_ (.inl (by simp)) _) | (with_reducible apply Keeps.drewN) | (with_reducible apply Keeps.drew) | (with_reducible exact KC.out) | (with_reducible exact Keeps.refl _ _) | (with_reducible exact KC.out.mono (fun _ _ h => h.elim)))))
            (first
            | (go_at_call 73; (refine (HCC.out _ (by repeat (first | (with_reducible exact KC.out) | (with_reducible exact Keeps.refl _ _) | (with_reducible apply Keeps.drewN) | (with_reducible apply Keeps.drew) | (with_reducible apply Keeps.alloc)))).mono ?_); rintro e wy0 ⟨a3, c3, rfl, hp3, hk⟩; have KC2 : Hd (Keeps (fun _ => False) W21 wy0) := hid (Keeps.trans (S := fun _ => False) (by repeat (first | (with_reducible exact KC.out) | (with_reducible exact Keeps.refl _ _) | (with_reducible apply Keeps.drewN) | (with_reducible apply Keeps.drew) | (with_reducible apply Keeps.alloc))) hk); have zc := KC.out.size; have zk := hk.size; (try simp at zk); have HP3 : Hd (∀ X, Keeps (fun b => b = b_BR) wy0 X → Bds (fun b => W21.heap.size ≤ b) X (.slice a3 (j + 1) c3) (b :: (fs.take j).map (·.b))) := hid (fun X hx => ((hp3.bds.keep hx (fun b _ h1 h2 => by rcases h1 with h1 | h1 <;> (have h1' := h1; (try simp at h1'); omega))).mono (fun b _ h => by rcases h with h | h <;> (have h' := h; (try simp at h'); omega)))); clear hp3; replace KC := KC2; clear KC2; have sF_BR3_0 : wy0.cell? ⟨b_BR, 0, none⟩ = some ((.int .i64 0)) := blk_cell (blk_keep BR3.out KC.out (fun h => h)) 0; have sG_BR3_0 : wy0.frozen? ⟨b_BR, 0, none⟩ = false := blk_free (blk_keep BR3.out KC.out (fun h => h)) 0; have sF_BR3_1 : wy0.cell? ⟨b_BR, 1, none⟩ = some ((.slice none 0 0)) := blk_cell (blk_keep BR3.out KC.out (fun h => h)) 1; have sG_BR3_1 : wy0.frozen? ⟨b_BR, 1, none⟩ = false := blk_free (blk_keep BR3.out KC.out (fun h => h)) 1; have sF_BR3_2 : wy0.cell? ⟨b_BR, 2, none⟩ = some ((.bool false)) := blk_cell (blk_keep BR3.out KC.out (fun h => h)) 2; have sG_BR3_2 : wy0.frozen? ⟨b_BR, 2, none⟩ = false := blk_free (blk_keep BR3.out KC.out (fun h => h)) 2; have sF_BR3_3 : wy0.cell? ⟨b_BR, 3, none⟩ = some ((.int .u64 0)) := blk_cell (blk_keep BR3.out KC.out (fun h => h)) 3; have sG_BR3_3 : wy0.frozen? ⟨b_BR, 3, none⟩ = false := blk_free (blk_keep BR3.out KC.out (fun h => h)) 3; have sF_BR3_4 : wy0.cell? ⟨b_BR, 4, none⟩ = some ((.int .i64 0)) := blk_cell (blk_keep BR3.out KC.out (fun h => h)) 4; have sG_BR3_4 : wy0.frozen? ⟨b_BR, 4, none⟩ = false := blk_free (blk_keep BR3.out KC.out (fun h => h)) 4; replace hk := hid hk))
          all_goals
            go_wp2_with fail
            go_meet
            exact ⟨a3, c3, rfl, hid (by repeat (first | (with_reducible refine LB_BR3 _ ?_) | (with_reducible refine blk_other ?_ (by first | omega | (simp only [World.size_alloc, World.size_drew]; omega)) _ _) | (with_reducible apply blk_drewN) | (with_reducible apply blk_drew) | (with_reducible refine blk_alloc ?_ _) | (with_reducible exact blk_keep BR3.out KC.out (fun h => h)))), hid (HP3.out _ (by repeat (first | (with_reducible exact Keeps.refl _ _) | (with_reducible apply Keeps.drewN) | (with_reducible apply Keeps.drew) | (refine Keeps.setCell (S := fun b => b = b_BR) ?_ (.inl rfl) _)))), hid (by repeat (first | (with_reducible refine Keeps.setCell (S := fun b => b = b_BR) ?_ (.inl (by simp)) _) | (with_reducible apply Keeps.drewN) | (with_reducible apply Keeps.drew) | (with_reducible exact KC.out) | (with_reducible exact Keeps.refl _ _) | (with_reducible exact KC.out.mono (fun _ _ h => h.elim))))⟩
        case rest =>
          obtain ⟨a3, c3, rfl, N_BR3, M_0, hk⟩ := hcut
          replace hk := hk.out
          generalize wc = W22 at *
          have HB2' : Hd (Blk W22 w.heap.size #[(.int .i64 Y), (.slice a2 r c2), (.bool lk), (.int .u64 (k : Int)), (.int .i64 i)] 35) := hid (blk_keep HB2.out hk (fun h => by omega))
          have HO2' : Hd (Bds (fun b => b < w.heap.size ∨ W1.heap.size ≤ b) W22 (.slice oa (j + 1) oc) (b :: (fs.take j).map (·.b))) := hid (HO2.out.keep hk (fun b _ h1 h2 => by rcases h1 with h1 | h1 <;> omega))
          have HP2' : Hd (Frs (fun b => (K b ∧ b < V9.heap.size) ∨ V9.heap.size ≤ b) W22 (.slice a2 r c2) (fs.drop j)) := hid (HP2.out.keep hk (fun b _ h1 h2 => h1.elim (fun g1 => by have := HKW.out b g1.1; omega) (fun (g1 : V9.heap.size ≤ b) => by omega)))
          clear HB2 HO2 HP2
          have HB2 := HB2'
          clear HB2'
          have HO2 := HO2'
          clear HO2'
          have HP2 := HP2'
          clear HP2'
          clear BR3
          have BR3 := N_BR3
          clear N_BR3
          have HK' : Hd (Keeps (fun _ => False) w W22) := hid (HK.out.trans' hk (fun i hi h => by omega))
          clear HK
          have HK := HK'
          clear HK'
          have z_W22 := hk.size
          clear hk
          go_wp2
          have rr_BR3_0 := blk_cell BR3.out 0
          have rr_BR3_1 := blk_cell BR3.out 1
          have rr_BR3_2 := blk_cell BR3.out 2
          have rr_BR3_3 := blk_cell BR3.out 3
          have rr_BR3_4 := blk_cell BR3.out 4
          refine bodyPost_ret (v := .tuple #[.agg #[(.int .i64 Y), (.slice a2 r c2), (.bool lk), (.int .u64 (k : Int)), (.int .i64 i)], .slice a3 (j + 1) c3]) (by simp [results, Tryd.results69, go_sem, rr_BR3_0, rr_BR3_1, rr_BR3_2, rr_BR3_3, rr_BR3_4]) rfl ?_
          rw [HJX.out, ← HY.out]
          refine ⟨a2, c2, a3, c3, by rw [HFL.out], ?_, ?_, HK.out⟩
          · rw [HFL.out]; exact HP2.out.mono (fun b _ h => by rcases h with h | h; exact .inl h.1; exact .inr (by omega))
          · exact M_0.out.mono (fun b _ h => by omega)
end Go.Proofs.YthoikljmokkchaaDoor
namespace Go.Proofs.YthoikljmokkchaaDoor
open Go.RowKit
theorem frp_form {KD : Nat → Prop} {B : Nat} {w : World} {a : Option Addr} {n c : Nat} {l : List Fr} (h : FrP KD B w (.slice a n c) l) (hl : 0 < l.length) : ∃ g, a = some ⟨g, 0, none⟩ ∧ B ≤ g ∧ g < w.heap.size ∧ ∀ j, w.frozen? ⟨g, j, none⟩ = false := by
  obtain ⟨xs, ho, hge, hc⟩ := h
  have ho1 := ho.1
  rcases ho.1.2 with ⟨_, h0⟩ | ⟨g, cap, cur, h, h1, h2, h3, _⟩
  · omega
  · injection h with e1 e2 e3
    subst e1 e2 e3
    exact ⟨g, rfl, hge g rfl, (Array.getElem?_eq_some_iff.1 h2).1, fun j => World.ownsRow.frozenAt ho1 j⟩
theorem FrL.set {K : Nat → Prop} {w : World} {xs : List Value} {l : List Fr} {k : Nat} {x : Fr} {v : Value} (h : FrL K w xs l) (hx : l[k]? = some x) (hs : Sl K w v (u8s x.b)) : FrL K w (xs.set (k * 5 + 3) v) l := by
  refine ⟨by rw [List.length_set]; exact h.1, fun i y hy => ?_⟩
  have hk : k < l.length := (List.getElem?_eq_some_iff.1 hx).1
  have hlen := h.1
  have key : ∀ j, i * 5 + j ≠ k * 5 + 3 → (xs.set (k * 5 + 3) v).getD (i * 5 + j) undef = xs.getD (i * 5 + j) undef := fun j hj => by
    unfold List.getD; rw [List.getElem?_set_ne (Ne.symm hj)]
  by_cases hik : i = k
  · subst hik
    rw [hx] at hy; injection hy with hy; subst hy
    obtain ⟨c0, c1, c2, c4, _⟩ := h.2 i x hx
    refine ⟨(key 0 (by omega)).trans c0, (key 1 (by omega)).trans c1, (key 2 (by omega)).trans c2, (key 4 (by omega)).trans c4, ?_⟩
    have e : (xs.set (i * 5 + 3) v).getD (i * 5 + 3) undef = v := by
      unfold List.getD; rw [List.getElem?_set_self (by rw [hlen]; omega)]; rfl
    show Sl K w ((xs.set (i * 5 + 3) v).getD (i * 5 + 3) undef) _
    rw [e]; exact hs
  · refine (h.2 i y hy).congr (fun j hj => key j ?_)
    rcases Nat.lt_or_ge i k with h1 | h1 <;> omega
theorem FrP.set {KD : Nat → Prop} {B : Nat} {w : World} {g n c k : Nat} {l : List Fr} {x : Fr} {v : Value} (h : FrP KD B w (.slice (some ⟨g, 0, none⟩) n c) l) (hn : l.length = n) (hx : l[k]? = some x) (hs : Sl (fun b => KD b ∧ b ≠ g) w v (u8s x.b)) :
    FrP KD B (w.setCell ⟨g, k * 5 + 3, none⟩ v) (.slice (some ⟨g, 0, none⟩) n c) l := by
  obtain ⟨xs, ho, hge, hc⟩ := h
  have hne : ∀ b, b ≠ g → (Value.slice (some ⟨g, 0, none⟩) n c).ownBlock ≠ some b := fun b hb e => by injection e with e; exact hb e.symm
  rw [hn] at ho
  refine ⟨xs.set (k * 5 + 3) v, ⟨by rw [hn]; exact (ho.1.stored (k * 5 + 3) v).1, ho.2⟩, hge, ?_⟩
  have hs' := (hc.set hx (hs.mono (K' := fun b => KD b ∧ (Value.slice (some ⟨g, 0, none⟩) n c).ownBlock ≠ some b) (fun b _ h => ⟨h.1, hne b h.2⟩)))
  exact hs'.keep (S := fun b => b = g) ((Keeps.refl (fun b => b = g) w).setCell (p := ⟨g, k * 5 + 3, none⟩) (.inl rfl) v) (fun b _ h1 h2 => by subst h2; exact h1.2 rfl)
theorem keep_frs {w w' : World} {K : Nat → Prop} {l : List Fr} {xs : List Value} {f : Fr} {ad : Option Addr} {cd : Nat} {e : Ending} (hK : ∀ b, K b → b < w.heap.size) (hl : FrL K w xs l) (hs : Sl K w (.slice ad f.b.length cd) (u8s f.b)) (h : KeepP w K l xs f ad cd e w') :
    ∃ a c, e = .returned (.slice a (insM f l).length c) ∧ Frs (fun b => K b ∨ w.heap.size ≤ b) w' (.slice a (insM f l).length c) (insM f l) ∧ Keeps (fun _ => False) w w' := by
  rcases h with ⟨k, a, c, hk, h1, h2, rfl, ho, hkeep⟩ | ⟨k, x, a, c, hx, hq, h1, rfl, hf, hkeep⟩
  · have e1 := insM_at f l k hk h1 h2
    have hlen : (insM f l).length = l.length + 1 := by rw [e1, List.length_append, List.length_cons, List.length_take, List.length_drop]; omega
    refine ⟨a, c, by rw [hlen], ⟨_, by rw [hlen]; exact ho.row.mono (fun b _ h => .inr h), ?_⟩, hkeep⟩
    rw [e1, show l.take k ++ f :: l.drop k = l.take k ++ [f] ++ l.drop k by simp]
    have g := ((hl.take k).append (FrL.one hs)).append (hl.drop k)
    exact (g.keep hkeep (fun _ _ _ h => h)).mono (fun b _ h => .inl h)
  · have e1 := insM_in f l k x hx hq h1
    rw [e1]
    exact ⟨a, c, rfl, hf, hkeep⟩
def RecvR (w : World) (K : Nat → Prop) (m : Rv × List (List Nat) × Int) (e : Ending) (w' : World) : Prop := ∃ a2 c2 a3 c3, e = .returned (.tuple #[.agg #[.int .i64 m.1.nx, .slice a2 m.1.fs.length c2, .bool m.1.lk, .int .u64 (m.1.l.k : Int), .int .i64 m.1.l.i], .slice a3 m.2.1.length c3, .int .i64 m.2.2]) ∧
  Frs (fun b => K b ∨ w.heap.size ≤ b) w' (.slice a2 m.1.fs.length c2) m.1.fs ∧ Bds (fun b => w.heap.size ≤ b) w' (.slice a3 m.2.1.length c3) m.2.1 ∧ Keeps (fun _ => False) w w'
theorem recvM_long {r : Rv} {f : Fr} (h : 512 < f.b.length) : recvM r f = (r, [], 2) := by unfold recvM; rw [if_pos h]
theorem recvM_bad {r : Rv} {f : Fr} {l : Ld} {er : Int} (h : ¬ 512 < f.b.length) (ha : acceptL r.l f.k (covL f) f.t = (l, er)) (he : er ≠ 0) : recvM r f = (r, [], er) := by
  unfold recvM; rw [if_neg h, ha, if_pos he]
theorem recvM_go {r : Rv} {f : Fr} {l : Ld} (h : ¬ 512 < f.b.length) (ha : acceptL r.l f.k (covL f) f.t = (l, 0)) : recvM r f = recv2 r l f := by
  unfold recvM; rw [if_neg h, ha, if_neg (by simp)]
theorem recv2_uold {r : Rv} {f : Fr} {l : Ld} (hu : f.u = true) (hd : 128 ≤ distM f.q r.nx) : recv2 r l f = (⟨r.nx, [], false, l⟩, [], 0) := by
  unfold recv2; rw [hu]; simp [hd]
theorem recv2_unew {r : Rv} {f : Fr} {l : Ld} (hu : f.u = true) (hd : distM f.q r.nx < 128) : recv2 r l f = (⟨r.nx + (distM f.q r.nx : Nat), [], false, l⟩, [], 0) := by
  unfold recv2; rw [hu]; simp [Nat.not_le.2 hd]
theorem recv2_lock {r : Rv} {f : Fr} {l : Ld} (hu : f.u = false) (hl : r.lk = true) : recv2 r l f = (⟨r.nx, r.fs, true, l⟩, [], 31) := by
  unfold recv2; rw [hu, hl]; simp
theorem recv2_del {r : Rv} {f : Fr} {l : Ld} (hu : f.u = false) (hl : r.lk = false) (hd : distM f.q r.nx = 0) : recv2 r l f = delivM r l f.b := by
  unfold recv2; rw [hu, hl]; simp [hd]
theorem recv2_keep {r : Rv} {f : Fr} {l : Ld} (hu : f.u = false) (hl : r.lk = false) (hd : distM f.q r.nx ≠ 0) (hd2 : distM f.q r.nx < 16) : recv2 r l f = (⟨r.nx, insM (setQ f (r.nx + (distM f.q r.nx : Nat))) r.fs, false, l⟩, [], 0) := by
  unfold recv2; rw [hu, hl]; simp [hd, hd2]
theorem recv2_far {r : Rv} {f : Fr} {l : Ld} (hu : f.u = false) (hl : r.lk = false) (hd : 16 ≤ distM f.q r.nx) (hd2 : distM f.q r.nx < 128) : recv2 r l f = (⟨r.nx, r.fs, true, l⟩, [], 32) := by
  unfold recv2; rw [hu, hl]; simp [hd2, Nat.not_lt.2 hd, show distM f.q r.nx ≠ 0 by omega]
theorem recv2_old {r : Rv} {f : Fr} {l : Ld} (hu : f.u = false) (hl : r.lk = false) (hd : 128 ≤ distM f.q r.nx) : recv2 r l f = (⟨r.nx, r.fs, false, l⟩, [], 0) := by
  unfold recv2; rw [hu, hl]; simp [show ¬ distM f.q r.nx < 128 by omega, show ¬ distM f.q r.nx < 16 by omega, show distM f.q r.nx ≠ 0 by omega]
end Go.Proofs.YthoikljmokkchaaDoor
