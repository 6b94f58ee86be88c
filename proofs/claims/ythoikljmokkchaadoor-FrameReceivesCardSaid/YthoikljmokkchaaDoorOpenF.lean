/- A frame, and acts, that came in, opened. -/
import Derived.Test.YthoikljmokkchaaDoorFrBase
import Derived.Deep.Slices
import Derived.Deep.Fields
import Derived.Test.YthoikljmokkchaaDoorOpen
import Derived.Lib.SmallJoins
import Derived.ChangeSame
import Derived.SizedLaws
namespace Go.Proofs.YthoikljmokkchaaDoor
open Go.Joins Go.ChangeShapes Go.WideShapes Go.ChangeAt Go.RowKit
structure AC where
  kd : Int
  n : Int
  m : Int
  b : List Nat
structure AcOk (x : AC) : Prop where
  kd : -9223372036854775808 ≤ x.kd ∧ x.kd ≤ 9223372036854775807
  n : -9223372036854775808 ≤ x.n ∧ x.n ≤ 9223372036854775807
  m : -9223372036854775808 ≤ x.m ∧ x.m ≤ 9223372036854775807
  b : ∀ c ∈ x.b, c < 256
def AcCells (K : Nat → Prop) (w : World) (c : Nat → Value) (x : AC) : Prop :=
  c 0 = .int .i64 x.kd ∧ c 1 = .int .i64 x.n ∧ c 2 = .int .i64 x.m ∧ Sl K w (c 3) (u8s x.b)
theorem AcCells.keep {K S : Nat → Prop} {w w' : World} {c : Nat → Value} {x : AC} (h : AcCells K w c x) (hk : Keeps S w w') (hd : ∀ b, b < w.heap.size → K b → ¬ S b) : AcCells K w' c x := ⟨h.1, h.2.1, h.2.2.1, h.2.2.2.keep hk hd⟩
theorem AcCells.congr {K : Nat → Prop} {w : World} {c c' : Nat → Value} {x : AC} (h : AcCells K w c x) (e : ∀ j, j < 4 → c' j = c j) : AcCells K w c' x := by
  obtain ⟨h0, h1, h2, h3⟩ := h
  exact ⟨(e 0 (by omega)).trans h0, (e 1 (by omega)).trans h1, (e 2 (by omega)).trans h2, by rw [e 3 (by omega)]; exact h3⟩
def AcL (K : Nat → Prop) (w : World) (xs : List Value) (l : List AC) : Prop := xs.length = l.length * 4 ∧ ∀ i x, l[i]? = some x → AcCells K w (fun j => xs.getD (i * 4 + j) undef) x
theorem AcL.nil (K : Nat → Prop) (w : World) : AcL K w [] [] := ⟨rfl, fun i x h => by simp at h⟩
theorem AcL.keep {K S : Nat → Prop} {w w' : World} {xs : List Value} {l : List AC} (h : AcL K w xs l) (hk : Keeps S w w') (hd : ∀ b, b < w.heap.size → K b → ¬ S b) : AcL K w' xs l := ⟨h.1, fun i x hi => (h.2 i x hi).keep hk hd⟩
def Acs (K : Nat → Prop) (w : World) (v : Value) (l : List AC) : Prop := ∃ xs, Row K w 4 v l.length xs ∧ AcL K w xs l
theorem Acs.keep {K S : Nat → Prop} {w w' : World} {v : Value} {l : List AC} (h : Acs K w v l) (hk : Keeps S w w') (hd : ∀ b, b < w.heap.size → K b → ¬ S b) : Acs K w' v l := by
  obtain ⟨xs, h1, h2⟩ := h
  exact ⟨xs, h1.keep hk hd, h2.keep hk hd⟩
theorem Acs.nil (K : Nat → Prop) (w : World) : Acs K w (.slice none 0 0) [] := ⟨[], ⟨rfl, .inl ⟨rfl, rfl⟩⟩, AcL.nil _ _⟩
theorem Acs.form {K : Nat → Prop} {w : World} {v : Value} {l : List AC} (h : Acs K w v l) : ∃ a c, v = .slice a l.length c ∧ l.length ≤ c ∧ c ≤ maxLen := by
  obtain ⟨xs, h1, _⟩ := h
  obtain ⟨a, c, e, g1, g2, _⟩ := h1.form
  exact ⟨a, c, e, g1, g2⟩
theorem acs_cells {K : Nat → Prop} {w : World} {a : Option Addr} {n c : Nat} {l : List AC} (h : Acs K w (.slice a n c) l) (hl : 0 < l.length) :
    ∃ b o, a = some ⟨b, o, none⟩ ∧ K b ∧ b < w.heap.size ∧ ∀ k x, l[k]? = some x → w.cell? ⟨b, o + k * 4, none⟩ = some (.int .i64 x.kd) ∧ w.cell? ⟨b, o + k * 4 + 1, none⟩ = some (.int .i64 x.n) ∧ w.cell? ⟨b, o + k * 4 + 2, none⟩ = some (.int .i64 x.m) ∧
      ∃ ad cd, w.cell? ⟨b, o + k * 4 + 3, none⟩ = some (.slice ad x.b.length cd) ∧ Sl K w (.slice ad x.b.length cd) (u8s x.b) := by
  obtain ⟨xs, hrow, hc⟩ := h
  obtain ⟨a', c', e, _, _, hel⟩ := hrow.form
  injection e with e1 e2 e3
  subst e1
  obtain ⟨b, o, ea, hK, hb, hcell⟩ := hel hl
  refine ⟨b, o, ea, hK, hb, fun k x hx => ?_⟩
  have hk : k < l.length := (List.getElem?_eq_some_iff.1 hx).1
  obtain ⟨t0, t1, t2, t4⟩ := hc.2 k x hx
  have key : ∀ j, j < 4 → w.cell? ⟨b, o + k * 4 + j, none⟩ = some (xs.getD (k * 4 + j) undef) := fun j hj => by rw [Nat.add_assoc]; exact hcell (k * 4 + j) (by omega)
  obtain ⟨ad, cd, e4, _⟩ := t4.bytes
  have e4' : xs.getD (k * 4 + 3) undef = .slice ad x.b.length cd := e4
  have h4 : Sl K w (.slice ad x.b.length cd) (u8s x.b) := by have h := t4; simp only [e4'] at h; exact h
  exact ⟨(key 0 (by omega)).trans (congrArg some t0), (key 1 (by omega)).trans (congrArg some t1), (key 2 (by omega)).trans (congrArg some t2), ad, cd, (key 3 (by omega)).trans (congrArg some e4'), h4⟩
theorem weights_agg {H : Type} {P : Program} {t : TypeId} {parts : List (DataW H)} {fs : Array Field} (ht : P.underlying t = some (.struct fs)) {j : Nat} {t' : TypeId} {d : DataW H} (h1 : (fs.toList.map (·.type))[j]? = some t') (h2 : parts[j]? = some d) : ∀ n ∈ d.weights P t', n ∈ (DataW.agg parts).weights P t := by
  intro n hn
  simp only [DataW.weights, ht]
  exact DataW.weights_mem_each h1 h2 n hn
theorem weights_bytes {H : Type} {P : Program} {t e : TypeId} {d : DataW H} {l : List Int} (hd : (d = .nil ∧ l = []) ∨ ∃ elems sp, d = .slice elems sp ∧ elems.length = l.length) (ht : P.underlying t = some (.slice e)) (hb : P.bytesOf e = 1) (h : ∀ m ∈ d.weights P t, m ≤ reachBytes) : l.length ≤ reachBytes := by
  rcases hd with ⟨_, rfl⟩ | ⟨elems, sp, rfl, hl⟩
  · exact Nat.zero_le _
  · have := h ((elems.length + sp.length) * P.bytesOf e) (by simp [DataW.weights, ht])
    rw [hb] at this
    omega
theorem weights_all {H : Type} {P : Program} {e : TypeId} : ∀ {elems : List (DataW H)} {d : DataW H}, d ∈ elems → ∀ n ∈ d.weights P e, n ∈ DataW.weightsAll P e elems := by
  intro elems
  induction elems with
  | nil => intro d h; cases h
  | cons x l ih =>
    intro d h n hn
    simp only [DataW.weightsAll, List.mem_append]
    rcases List.mem_cons.1 h with rfl | h
    · exact .inl hn
    · exact .inr (ih h n hn)
theorem weights_elem {H : Type} {P : Program} {t e : TypeId} {elems sp : List (DataW H)} (ht : P.underlying t = some (.slice e)) {d : DataW H} (hd : d ∈ elems) : ∀ n ∈ d.weights P e, n ∈ (DataW.slice elems sp).weights P t := by
  intro n hn
  simp only [DataW.weights, ht, List.mem_cons, List.mem_append]
  exact .inr (.inl (weights_all hd n hn))
section
variable {H : Type} {enc : TypeId × Value → H} {w : World} {base : Nat} {spare : Nat → Bool} {held : Bool}
set_option maxRecDepth 100000 in
theorem open_actc {fuel : Nat} {cs : List Value} {d : DataW H × List MemPlace} (h : DataW.trod enc Tryd.prog w base spare held fuel 39 cs = some d) :
    ∃ x : AC, cs.length = 4 ∧ AcCells (fun b => b < w.heap.size) w (fun j => cs.getD j undef) x ∧ AcOk x ∧ ((∀ m ∈ d.1.weights Tryd.prog 39, m ≤ reachBytes) → x.b.length ≤ reachBytes) := by
  have h6 : Tryd.prog.cellsOf 39 = 4 := by kernel_rfl
  have c_bytes : Tryd.prog.cellsOf 22 = 1 := by kernel_rfl
  have c_int : Tryd.prog.cellsOf 3 = 1 := by kernel_rfl
  have c5 : Tryd.prog.cellsOf 5 = 1 := by kernel_rfl
  obtain ⟨xs, n, rfl, rfl, hcl, hxl, hf⟩ := DataW.trod_struct Tryd.underlying39 h
  rw [h6] at hcl
  have hxl : xs.length = 4 := hxl
  obtain ⟨a0, a1, a2, a3, rfl⟩ : ∃ a0 a1 a2 a3, cs = [a0, a1, a2, a3] := by
    match cs, hcl with
    | [a0, a1, a2, a3], _ => exact ⟨a0, a1, a2, a3, rfl⟩
  obtain ⟨y0, y1, y2, y3, rfl⟩ : ∃ y0 y1 y2 y3, xs = [y0, y1, y2, y3] := by
    match xs, hxl with
    | [y0, y1, y2, y3], _ => exact ⟨y0, y1, y2, y3, rfl⟩
  have f0 : DataW.trod enc Tryd.prog w base spare held n 3 [a0] = some y0 := by
    have h : DataW.trod enc Tryd.prog w base spare held n 3 (List.take (Tryd.prog.cellsOf 3) [a0, a1, a2, a3]) = some y0 := hf 0 _ rfl
    rw [c_int] at h
    exact h
  have f1 : DataW.trod enc Tryd.prog w base spare held n 3 [a1] = some y1 := by
    have h : DataW.trod enc Tryd.prog w base spare held n 3 (List.take (Tryd.prog.cellsOf 3) [a1, a2, a3]) = some y1 := hf 1 _ rfl
    rw [c_int] at h
    exact h
  have f2 : DataW.trod enc Tryd.prog w base spare held n 3 [a2] = some y2 := by
    have h : DataW.trod enc Tryd.prog w base spare held n 3 (List.take (Tryd.prog.cellsOf 3) [a2, a3]) = some y2 := hf 2 _ rfl
    rw [c_int] at h
    exact h
  have f3 : DataW.trod enc Tryd.prog w base spare held n 22 [a3] = some y3 := by
    have h : DataW.trod enc Tryd.prog w base spare held n 22 (List.take (Tryd.prog.cellsOf 22) [a3]) = some y3 := hf 3 _ rfl
    rw [c_bytes] at h
    exact h
  obtain ⟨k0, e0, g0, w0⟩ := DataW.trod_int Tryd.underlying3 f0
  obtain ⟨k1, e1, g1, w1⟩ := DataW.trod_int Tryd.underlying3 f1
  obtain ⟨k2, e2, g2, w2⟩ := DataW.trod_int Tryd.underlying3 f2
  obtain ⟨l3, s3, w3, d3⟩ := open_slice_c Tryd.underlying22 Tryd.underlying5 c5 f3
  simp at e0 e1 e2
  subst e0 e1 e2
  obtain ⟨s3', w3'⟩ := u8_list s3 w3
  have HSZ : (∀ m ∈ (DataW.agg ([y0, y1, y2, y3].map (·.1))).weights Tryd.prog 39, m ≤ reachBytes) → l3.length ≤ reachBytes := fun hm =>
    weights_bytes d3 Tryd.underlying22 (by kernel_rfl) (fun m h => hm m (weights_agg Tryd.underlying39 (j := 3) (t' := 22) rfl rfl m h))
  exact ⟨⟨k0, k1, k2, l3.map Int.toNat⟩, rfl, ⟨rfl, rfl, rfl, s3'⟩, ⟨i64_of_wf w0, i64_of_wf w1, i64_of_wf w2, w3'⟩, fun h => by show (l3.map Int.toNat).length ≤ _; rw [List.length_map]; exact HSZ h⟩
set_option maxRecDepth 100000 in
theorem open_acts {v : Value} {d : DataW H} {ps : List MemPlace} (hv : ∃ a len cap, v = .slice a len cap) (h : DataW.Trod enc Tryd.prog w base spare held 30 v d ps) :
    ∃ l : List AC, Acs (fun b => b < w.heap.size) w v l ∧ (∀ x ∈ l, AcOk x) ∧ ((∀ m ∈ d.weights Tryd.prog 30, m ≤ reachBytes) → ∀ x ∈ l, x.b.length ≤ reachBytes) := by
  obtain ⟨a, len, cap, rfl⟩ := hv
  obtain ⟨fuel, hf⟩ := h
  have h6 : Tryd.prog.cellsOf 39 = 4 := by kernel_rfl
  rcases Go.Deep.open_slice Tryd.underlying30 hf with ⟨hcs, hx⟩ | ⟨x, len', cap', m, n, D, Pl, hcs, _, hl, hm, hmm, hx, hel⟩
  · simp [Value.cells] at hcs
    obtain ⟨rfl, rfl, rfl⟩ := hcs
    exact ⟨[], Acs.nil _ _, by simp, by simp⟩
  · simp [Value.cells] at hcs
    obtain ⟨rfl, rfl, rfl⟩ := hcs
    have hlm : len ≤ m := by rw [hmm]; split <;> omega
    rw [h6] at hel
    have hall : ∀ i, i < len → ∃ y : List Value × AC, w.cells? base (x.add (i * 4)) 4 = some y.1 ∧ AcCells (fun b => b < w.heap.size) w (fun j => y.1.getD j undef) y.2 ∧ AcOk y.2 ∧ ((∀ m ∈ (D i).weights Tryd.prog 39, m ≤ reachBytes) → y.2.b.length ≤ reachBytes) := by
      intro i hi
      obtain ⟨cs, h1, h2⟩ := hel i (by omega)
      obtain ⟨y, g1, g2, g3, g4⟩ := open_actc h2
      exact ⟨(cs, y), h1, g2, g3, g4⟩
    haveI : Inhabited AC := ⟨⟨0, 0, 0, []⟩⟩
    obtain ⟨f, hfi⟩ := Go.Deep.choose_lt hall
    have hcl : ∀ i, i < len → (f i).1.length = 4 ∧ ∀ r, r < 4 → w.cell? (x.add (i * 4 + r)) = some ((f i).1.getD r undef) := by
      intro i hi
      obtain ⟨_, h1, h2⟩ := World.cells?_some (hfi i hi).1
      refine ⟨h1, fun r hr => ?_⟩
      have h3 := h2 r hr
      rw [Go.Deep.add_add] at h3
      rw [h3]
      simp [List.getD, show r < (f i).1.length by omega]
    have hxs : ∀ j, j < len * 4 → ((List.range (len * 4)).map fun j => (f (j / 4)).1.getD (j % 4) undef).getD j undef = (f (j / 4)).1.getD (j % 4) undef := by
      intro j hj
      simp [List.getD, hj]
    refine ⟨(List.range len).map (fun i => (f i).2), ⟨(List.range (len * 4)).map fun j => (f (j / 4)).1.getD (j % 4) undef, ⟨by simp, .inr ⟨x, cap, by simp, by simpa using hl, hm, fun hn => ?_⟩⟩, by simp, fun i y hi => ?_⟩, fun y hy => ?_, fun hw y hy => ?_⟩
    · simp only [List.length_map, List.length_range] at hn ⊢
      obtain ⟨b, o, sp⟩ := x
      have h1 := (hcl 0 hn).2 0 (by omega)
      have hsp : sp = none := by simpa [Addr.add] using World.cell?_spot h1
      subst hsp
      have h2 : w.cell? ⟨b, o, none⟩ = some ((f 0).1.getD 0 undef) := by simpa [Addr.add] using h1
      refine ⟨b, o, rfl, cell_lt h2, cell_lt h2, fun j hj => ?_⟩
      have h3 := (hcl (j / 4) (by omega)).2 (j % 4) (by omega)
      rw [show j / 4 * 4 + j % 4 = j by omega, show (⟨b, o, none⟩ : Addr).add j = ⟨b, o + j, none⟩ by unfold Addr.add; split <;> simp_all] at h3
      rw [h3, hxs j hj]
    · have hil : i < len := by have := (List.getElem?_eq_some_iff.1 hi).1; simpa using this
      obtain rfl : (f i).2 = y := by simpa [hil] using hi
      obtain ⟨_, h1, _⟩ := hfi i hil
      have hj : ∀ j, j < 4 → ((List.range (len * 4)).map fun j => (f (j / 4)).1.getD (j % 4) undef).getD (i * 4 + j) undef = (f i).1.getD j undef := by
        intro j hj
        rw [hxs _ (by omega), show (i * 4 + j) / 4 = i by omega, show (i * 4 + j) % 4 = j by omega]
      exact h1.congr (fun j h => hj j h)
    · obtain ⟨i, hi, rfl⟩ := List.mem_map.1 hy
      exact (hfi i (List.mem_range.1 hi)).2.2.1
    · obtain ⟨i, hi, rfl⟩ := List.mem_map.1 hy
      refine (hfi i (List.mem_range.1 hi)).2.2.2 (fun m hm => hw m ?_)
      have hd : d = _ := congrArg Prod.fst hx
      rw [hd]
      exact weights_elem Tryd.underlying30 (List.mem_map.2 ⟨i, hi, rfl⟩) m hm
end
end Go.Proofs.YthoikljmokkchaaDoor
