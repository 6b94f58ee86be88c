/- Custody: TopA, TopB, TopC: walks and plain facts. -/
import Derived.Test.YtgfekgceeigdiaaDoorChecked
import Derived.Test.YtgfekgceeigdiaaDoorBaseAll
import Derived.Shelf.Slices.SearchI
import Derived.Shelf.Slices.Delete
import Derived.Shelf.Slices.Empties
import Derived.Shelf.Spec.SlicesInsertGrow
import Derived.Lib.RowBridge
import Derived.Test.YtgfekgceeigdiaaDoorWireAll
import Derived.Laws.OwnMore
import Derived.Deep.DrawnRows
namespace Go.Proofs.YtgfekgceeigdiaaDoor
open Go.RowKit Go.Shelf
def rho : Ren := ⟨fun k => match k with | 21 => 44 | 27 => 67 | 28 => 68 | 35 => 85 | 39 => 89 | 23 => 86 | 25 => 42 | 31 => 65 | 32 => 66 | 37 => 84 | k => k,
  fun t => match t with | 0 => 0 | 3 => 3 | 4 => 4 | 22 => 42 | 40 => 133 | t => t, fun x => x⟩
theorem ly21 : Lays2.n21 Tryd.prog rho where
  mixed := by kernel_rfl
  f21 := by kernel_rfl
  f27 := by kernel_rfl
  f28 := by kernel_rfl
  f35 := by kernel_rfl
  f39 := by kernel_rfl
  t0 := Tryd.underlying0
  a0 := Tryd.isAgg0
  z0 := Tryd.sizeOf0
  v0 := Tryd.zeroValue0
  t3 := Tryd.underlying3
  a3 := Tryd.isAgg3
  z3 := Tryd.sizeOf3
  v3 := Tryd.zeroValue3
  t4 := Tryd.underlying4
  a4 := Tryd.isAgg4
  z4 := Tryd.sizeOf4
  v4 := Tryd.zeroValue4
  t22 := Tryd.underlying42
  a22 := Tryd.isAgg42
  z22 := Tryd.sizeOf42
  v22 := Tryd.zeroValue42
  i3 := by kernel_rfl
theorem ly23 : Lays2.n23 Tryd.prog rho where
  mixed := by kernel_rfl
  f23 := by kernel_rfl
  t0 := Tryd.underlying0
  a0 := Tryd.isAgg0
  z0 := Tryd.sizeOf0
  v0 := Tryd.zeroValue0
  t3 := Tryd.underlying3
  a3 := Tryd.isAgg3
  z3 := Tryd.sizeOf3
  v3 := Tryd.zeroValue3
  t4 := Tryd.underlying4
  a4 := Tryd.isAgg4
  z4 := Tryd.sizeOf4
  v4 := Tryd.zeroValue4
  t22 := Tryd.underlying42
  a22 := Tryd.isAgg42
  z22 := Tryd.sizeOf42
  v22 := Tryd.zeroValue42
  i3 := by kernel_rfl
theorem ly25 : Lays2.n25 Tryd.prog rho where
  mixed := by kernel_rfl
  f25 := by kernel_rfl
  f31 := by kernel_rfl
  f32 := by kernel_rfl
  f37 := by kernel_rfl
  t0 := Tryd.underlying0
  a0 := Tryd.isAgg0
  z0 := Tryd.sizeOf0
  v0 := Tryd.zeroValue0
  t3 := Tryd.underlying3
  a3 := Tryd.isAgg3
  z3 := Tryd.sizeOf3
  v3 := Tryd.zeroValue3
  t4 := Tryd.underlying4
  a4 := Tryd.isAgg4
  z4 := Tryd.sizeOf4
  v4 := Tryd.zeroValue4
  t22 := Tryd.underlying42
  a22 := Tryd.isAgg42
  z22 := Tryd.sizeOf42
  v22 := Tryd.zeroValue42
  t40 := Tryd.underlying133
  a40 := Tryd.isAgg133
  z40 := Tryd.sizeOf133
  v40 := Tryd.zeroValue133
theorem BinSearch_any (K : Nat → Prop) (v : Value) (l : List Int) (x : Int) (w : World) (hv : Sl K w v (i64s l)) (hn : l.length ≤ 1000000) (hs : l.Pairwise (· ≤ ·)) :
    Calls Tryd.prog 42 #[v, .int .i64 x] w fun e w' => e = .returned (.tuple #[.int .i64 (l.countP (· < x) : Nat), .bool (l.contains x)]) ∧ Drawn w w' := by
  obtain ⟨a, c, rfl, h1, h2, h3⟩ := hv.ints
  rcases l with _ | ⟨y, l⟩
  · refine (Any.slices_BinarySearch_int_empty ly25 a c x w).mono ?_
    rintro e w' ⟨rfl, rfl⟩
    exact ⟨rfl, Drawn.refl _⟩
  · obtain ⟨b, o, rfl, _, _, hc⟩ := h3 (by simp)
    refine (Any.slices_BinarySearch_int ly25 b o (y :: l).length c (y :: l) x w (Nat.le_refl _) (by omega) (fun j hj => hc j hj) (by rw [List.take_length]; exact hs)).mono ?_
    rintro e w' ⟨rfl, q, rfl⟩
    rw [List.take_length]
    exact ⟨rfl, q, rfl⟩
theorem keeps_setCells {S : Nat → Prop} (b : Nat) (hS : S b) : ∀ (vs : List Value) (o : Nat) (w0 w : World), Keeps S w0 w → Keeps S w0 (w.setCells b o vs)
  | [], _, _, _, h => h
  | _ :: r, o, w0, w, h => keeps_setCells b hS r (o + 1) w0 _ (h.setCell (p := ⟨b, o, none⟩) (.inl hS) _)
theorem keeps_setCells' {S : Nat → Prop} (b : Nat) (w0 : World) (hS : w0.heap.size ≤ b) : ∀ (vs : List Value) (o : Nat) (w : World), Keeps S w0 w → Keeps S w0 (w.setCells b o vs)
  | [], _, _, h => h
  | _ :: r, o, w, h => keeps_setCells' b w0 hS r (o + 1) _ (h.setCell (p := ⟨b, o, none⟩) (.inr hS) _)
theorem size_setCells (b : Nat) : ∀ (vs : List Value) (o : Nat) (w : World), (w.setCells b o vs).heap.size = w.heap.size
  | [], _, _ => rfl
  | _ :: r, o, w => by rw [World.setCells, size_setCells b r]; simp
theorem set_at {w : World} {b o : Nat} {vs : List Value} (hs : ∀ j, j < vs.length → (w.cell? ⟨b, o + j, none⟩).isSome = true) (k : Nat) : (w.setCells b o vs).cell? ⟨b, k, none⟩ = if o ≤ k ∧ k < o + vs.length then vs[k - o]? else w.cell? ⟨b, k, none⟩ := by
  by_cases h : o ≤ k ∧ k < o + vs.length
  · have := World.cell?_setCells_in b vs o w hs (k - o) (by omega)
    rw [if_pos h, List.getElem?_eq_getElem (by omega), ← this, show o + (k - o) = k by omega]
  · rw [if_neg h]
    exact World.cell?_setCells_out b vs o w ⟨b, k, none⟩ (fun _ _ => by show k < o ∨ o + vs.length ≤ k; omega)
theorem ins_get {α : Type} (l : List α) (i : Nat) (x : α) (hi : i ≤ l.length) (j : Nat) : (l.take i ++ x :: l.drop i)[j]? = if j < i then l[j]? else if j = i then some x else l[j - 1]? := by
  have hl : (l.take i).length = i := by rw [List.length_take]; omega
  by_cases h1 : j < i
  · rw [if_pos h1, List.getElem?_append_left (by omega), List.getElem?_take, if_pos h1]
  · rw [if_neg h1, List.getElem?_append_right (by omega), hl]
    by_cases h2 : j = i
    · rw [if_pos h2, h2, Nat.sub_self]; rfl
    · rw [if_neg h2, show j - i = (j - i - 1) + 1 by omega, List.getElem?_cons_succ, List.getElem?_drop, show i + (j - i - 1) = j - 1 by omega]
/-- two stores: what is moved to the right, and the new one -/
theorem ins_cells {w : World} {b i n : Nat} {xs : List Value} {x : Value} (hi : i ≤ n) (hx : xs.length = n) (h0 : ∀ j, j < i → w.cell? ⟨b, j, none⟩ = xs[j]?) (hs : ∀ j, j < n + 1 → (w.cell? ⟨b, j, none⟩).isSome = true) (j : Nat) (hj : j < n + 1) :
    ((w.setCells b (i + 1) (xs.drop i)).setCells b i [x]).cell? ⟨b, j, none⟩ = (xs.take i ++ x :: xs.drop i)[j]? ∧ ((w.setCells b i [x]).setCells b (i + 1) (xs.drop i)).cell? ⟨b, j, none⟩ = (xs.take i ++ x :: xs.drop i)[j]? := by
  have hd : (xs.drop i).length = n - i := by rw [List.length_drop, hx]
  have e1 : ∀ j, j < (xs.drop i).length → (w.cell? ⟨b, i + 1 + j, none⟩).isSome = true := fun j hj => hs _ (by omega)
  have e2 : ∀ j, j < [x].length → (w.cell? ⟨b, i + j, none⟩).isSome = true := fun j hj => hs _ (by simp at hj; omega)
  rw [ins_get xs i x (by omega)]
  constructor
  · rw [set_at (fun k hk => by rw [set_at e1]; split; · rw [List.getElem?_eq_getElem (by omega)]; rfl
                               · exact e2 k hk), set_at e1]
    simp only [List.length_singleton]
    by_cases c1 : j < i
    · rw [if_neg (by omega), if_neg (by omega), if_pos c1]; exact h0 j c1
    · by_cases c2 : j = i
      · subst c2; rw [if_pos (by omega), if_neg (by omega), if_pos rfl, Nat.sub_self]; rfl
      · rw [if_neg (by omega), if_pos (by omega), if_neg c1, if_neg c2, List.getElem?_drop, show i + (j - (i + 1)) = j - 1 by omega]
  · rw [set_at (fun k hk => by rw [set_at e2]; split; · rename_i h; simp only [List.length_singleton] at h; omega
                               · exact e1 k hk), set_at e2]
    simp only [List.length_singleton]
    by_cases c1 : j < i
    · rw [if_neg (by omega), if_neg (by omega), if_pos c1]; exact h0 j c1
    · by_cases c2 : j = i
      · subst c2; rw [if_neg (by omega), if_pos (by omega), if_neg (by omega), if_pos rfl, Nat.sub_self]; rfl
      · rw [if_pos (by omega), if_neg c1, if_neg c2, List.getElem?_drop, show i + (j - (i + 1)) = j - 1 by omega]
theorem own_open {S : Nat → Prop} {w : World} {e : TypeId} {size : Nat} {v : Value} {n : Nat} {xs : List Value} (h : Own S w e size v n xs) :
    (v = .slice none 0 0 ∧ n = 0 ∧ xs = []) ∨ ∃ g cap cur, v = .slice (some ⟨g, 0, none⟩) n cap ∧ S g ∧ Blk w g cur e ∧ n ≤ cap ∧ cap ≤ maxLen ∧ cur.size = cap * size ∧ cur.toList.take (n * size) = xs := by
  obtain ⟨⟨h0, ⟨rfl, rfl⟩ | ⟨g, cap, cur, rfl, h1, h2, h3, h4, h5, h6⟩⟩, hS⟩ := h
  · refine .inl ⟨rfl, rfl, ?_⟩
    rw [Nat.zero_mul] at h0
    exact List.eq_nil_of_length_eq_zero h0
  · exact .inr ⟨g, cap, cur, rfl, hS g rfl, h2, h3, h4, h5, h6⟩
/-- a row whose cells are known, at the head of a block -/
theorem sl_of {K : Nat → Prop} {w : World} {g c : Nat} {xs : List Value} (hK : K g) (hc : xs.length ≤ c) (hm : c ≤ maxLen) (hg : g < w.heap.size) (h : ∀ j u, xs[j]? = some u → w.cell? ⟨g, j, none⟩ = some u) : Sl K w (.slice (some ⟨g, 0, none⟩) xs.length c) xs :=
  ⟨by simp, .inr ⟨_, c, rfl, hc, hm, fun _ => ⟨g, 0, rfl, hK, hg, fun j hj => by
    rw [Nat.mul_one] at hj
    rw [Nat.zero_add, List.getD, List.getElem?_eq_getElem hj]
    exact h j _ (List.getElem?_eq_getElem hj)⟩⟩⟩
theorem i64s_get (l : List Int) (j : Nat) : (i64s l)[j]? = (l[j]?).map (Value.int .i64) := by unfold i64s; rw [List.getElem?_map]
theorem i64s_ins (l : List Int) (i : Nat) (x : Int) : i64s (l.take i ++ x :: l.drop i) = (i64s l).take i ++ Value.int .i64 x :: (i64s l).drop i := by simp [i64s]
theorem Insert_any (S : Nat → Prop) (v : Value) (l : List Int) (i : Nat) (x : Int) (vb : Nat) (w : World) (hv : Own S w 3 1 v l.length (i64s l)) (hi : i ≤ l.length) (hb : Blk w vb #[.int .i64 x] 3) (hvb : v.ownBlock ≠ some vb) (hl : l.length ≤ 1000000) :
    Calls Tryd.prog 44 #[v, .int .i64 i, .slice (some ⟨vb, 0, none⟩) 1 1] w fun e w' => ∃ a c, e = .returned (.slice a (l.length + 1) c) ∧ Sl (fun b => S b ∨ w.heap.size ≤ b) w' (.slice a (l.length + 1) c) (i64s (l.take i ++ x :: l.drop i)) ∧ Keeps S w w' := by
  have hlen : (i64s (l.take i ++ x :: l.drop i)).length = l.length + 1 := by rw [i64s_length]; simp; omega
  have hvs : ∀ j u, [Value.int .i64 x][j]? = some u → w.cell? ⟨vb, 0 + j, none⟩ = some u := fun j u hj => by rw [blk_cell hb, Nat.zero_add]; simpa using hj
  have hone : ∀ u ∈ [Value.int .i64 x], u.oneCell' = true := by intro u hu; simp at hu; subst hu; rfl
  have hs1 := i64s_one l
  have hsl := i64s_length l
  have hxs := i64s_ins l i x
  have hxl : (i64s l).length = l.length := i64s_length l
  generalize i64s l = xs at *
  generalize i64s (l.take i ++ x :: l.drop i) = ys at *
  generalize l.length = n at *
  subst hxs
  have hget := ins_get xs i (Value.int .i64 x) (by omega)
  have rowof : ∀ (W : World) (g c : Nat), (S g ∨ w.heap.size ≤ g) → n + 1 ≤ c → c ≤ maxLen → g < W.heap.size → (∀ j, j < n + 1 → W.cell? ⟨g, j, none⟩ = (xs.take i ++ Value.int .i64 x :: xs.drop i)[j]?) → Sl (fun b => S b ∨ w.heap.size ≤ b) W (.slice (some ⟨g, 0, none⟩) (n + 1) c) (xs.take i ++ Value.int .i64 x :: xs.drop i) := by
    intro W g c h1 h2 h3 h4 h5
    have := sl_of (K := fun b => S b ∨ w.heap.size ≤ b) (w := W) (g := g) (c := c) (xs := xs.take i ++ Value.int .i64 x :: xs.drop i) h1 (by omega) h3 h4 (fun j u hj => by
      have hjl : j < n + 1 := by rw [← hlen]; exact (List.getElem?_eq_some_iff.1 hj).1
      rw [h5 j hjl]; exact hj)
    rw [hlen] at this
    exact this
  rcases own_open hv with ⟨rfl, h0, h1⟩ | ⟨g, cap, cur, rfl, hS, hB, h3, h4, h5, h6⟩
  · subst h0; subst h1
    obtain rfl : i = 0 := by omega
    refine (Any2.slices_Insert_int_end_grow ly21 none 0 0 vb 0 1 1 [] [.int .i64 x] w (by omega) (by omega) (by omega) (by omega) rfl rfl (fun _ => rfl) (fun a h => by cases h) hvs hone).mono ?_
    rintro e w' ⟨rfl, rfl⟩
    refine ⟨_, _, rfl, rowof _ _ _ (.inr (Nat.le_refl _)) (grownCap_ge _ _ _ _) (grownCap_le_maxLen _ _ _ _ (by decide)) (by simp) (fun j hj => ?_), ((Keeps.refl S w).drew).alloc _⟩
    obtain rfl : j = 0 := by omega
    refine (World.cell?_alloc_at (w := w.drew) _ _ w.heap.size 0 rfl).trans ?_
    rw [Array.getElem?_append_left (by simp)]
    rfl
  · rw [Nat.mul_one] at h5 h6
    have hlt := blk_lt hB
    have hcs : ∀ j u, xs[j]? = some u → w.cell? ⟨g, 0 + j, none⟩ = some u := fun j u hj => by
      rw [Nat.zero_add, blk_cell hB, ← hj, ← h6]
      have hjl : j < n := by rw [← hxl]; exact (List.getElem?_eq_some_iff.1 hj).1
      rw [List.getElem?_take, if_pos hjl]; simp
    have hsp : ∀ j, j < cap → (w.cell? ⟨g, 0 + j, none⟩).isSome = true := fun j hj => by rw [Nat.zero_add, blk_cell hB, Array.getElem?_eq_getElem (by omega)]; rfl
    have hfz : ∀ j, w.frozen? ⟨g, 0 + j, none⟩ = false := fun j => blk_free hB _
    have hne : vb ≠ g := fun h => hvb (by rw [h]; rfl)
    rcases Nat.lt_or_ge i n with hin | hin
    · rcases Nat.lt_or_ge cap (n + 1) with hr | hr
      · refine (Any2.slices_Insert_int_grow ly21 g 0 n cap i vb 0 1 1 xs [.int .i64 x] w hin (by omega) h3 hr (by omega) hxl rfl hcs hvs hs1 hone).mono ?_
        rintro e w' ⟨rfl, rfl⟩
        have hc1 := grownCap_ge w (n + 1) cap (rho.t 3)
        have hc2 := grownCap_le_maxLen w (n + 1) cap (rho.t 3) (by unfold maxLen; omega)
        generalize grownCap w (n + 1) cap (rho.t 3) = G at *
        generalize hR : (xs.take i).toArray ++ Builtin.zeroCells (Value.int .i64 0).cells (n + 1 - i) ++ Builtin.zeroCells (Value.int .i64 0).cells (G - (n + 1)) = R
        have hRs : n + 1 ≤ R.size := by rw [← hR]; simp [Builtin.zeroCells, Value.cells]; omega
        have hR0 : ∀ j, j < i → R[j]? = xs[j]? := fun j hj => by
          have hl : (xs.take i).length = i := by rw [List.length_take]; omega
          rw [← hR, Array.append_assoc, Array.getElem?_append_left (by simp; omega)]
          simp [hj]
        refine ⟨_, _, rfl, rowof _ _ _ (.inr (Nat.le_refl _)) hc1 hc2 ?_ (fun j hj => ?_), ?_⟩
        · rw [size_setCells]; show w.heap.size < ((w.alloc (.cells R (rho.t 3))).drew.setCells w.heap.size i [Value.int .i64 x]).heap.size; rw [size_setCells]; simp
        · rw [drew_setCells]
          refine (ins_cells (w := (w.alloc (.cells R (rho.t 3))).drew.drew) (b := w.heap.size) (i := i) (n := n) (x := .int .i64 x) (by omega) hxl (fun j hj => ?_) (fun j hj => ?_) j hj).2
          · exact (World.cell?_alloc_at (w := w) _ _ w.heap.size j rfl).trans (hR0 j hj)
          · show ((w.alloc (.cells R (rho.t 3))).cell? ⟨w.heap.size, j, none⟩).isSome = true
            rw [World.cell?_alloc_at (w := w) _ _ _ _ rfl, Array.getElem?_eq_getElem (by omega)]; rfl
        · exact keeps_setCells' w.heap.size w (Nat.le_refl _) _ _ _ (Keeps.drew (keeps_setCells' w.heap.size w (Nat.le_refl _) _ _ _ (((Keeps.refl S w).alloc _).drew)))
      · refine (Any2.slices_Insert_int_shift ly21 g 0 n cap i vb 0 1 1 xs [.int .i64 x] w hin (by omega) hr (by unfold maxLen at h4; omega) hne hxl rfl hcs (fun j hj => hsp j (by omega)) (fun j _ => hfz j) hvs hs1 hone 3 3 1 cap (by unfold World.shape?; rw [hb]; rfl) (by unfold World.shape?; rw [hB]; simp [h5]) (by omega) (blk_free hb _) (blk_free hb _)).mono ?_
        rintro e w' ⟨rfl, rfl⟩
        refine ⟨_, _, rfl, rowof _ _ _ (.inl hS) hr h4 ?_ (fun j hj => ?_), ?_⟩
        · rw [size_setCells, size_setCells]; exact hlt
        · rw [Nat.zero_add, Nat.zero_add]
          exact (ins_cells (w := w.drew) (b := g) (i := i) (n := n) (x := .int .i64 x) (by omega) hxl (fun j hj => by
            have := hcs j (xs[j]'(by omega)) (List.getElem?_eq_getElem (by omega))
            rw [Nat.zero_add] at this
            rw [List.getElem?_eq_getElem (by omega)]; exact this) (fun j hj => by have := hsp j (by omega); rw [Nat.zero_add] at this; exact this) j hj).1
        · exact keeps_setCells _ hS _ _ _ _ (keeps_setCells _ hS _ _ _ _ ((Keeps.refl S w).drew))
    · obtain rfl : i = n := by omega
      rcases Nat.lt_or_ge cap (i + 1) with hr | hr
      · refine (Any2.slices_Insert_int_end_grow ly21 (some ⟨g, 0, none⟩) i cap vb 0 1 1 xs [.int .i64 x] w (by omega) h3 hr (by omega) hxl rfl (fun h => by cases h) (fun a ha j u hj => by injection ha with ha; subst ha; rw [Addr.add_lit]; exact hcs j u hj) hvs hone).mono ?_
        rintro e w' ⟨rfl, rfl⟩
        have hc1 := grownCap_ge w (i + 1) cap (rho.t 3)
        have hc2 := grownCap_le_maxLen w (i + 1) cap (rho.t 3) (by unfold maxLen; omega)
        generalize grownCap w (i + 1) cap (rho.t 3) = G at *
        refine ⟨_, _, rfl, rowof _ _ _ (.inr (Nat.le_refl _)) hc1 hc2 (by simp) (fun j hj => ?_), ((Keeps.refl S w).drew).alloc _⟩
        refine (World.cell?_alloc_at (w := w.drew) _ _ w.heap.size j rfl).trans ?_
        rw [List.take_of_length_le (by omega), List.drop_eq_nil_of_le (by omega), Array.getElem?_append_left (by simp; omega)]
        simp
      · refine (Any2.slices_Insert_int_end_room ly21 g 0 i cap vb 0 1 1 [.int .i64 x] w (by omega) hr (by unfold maxLen at h4; omega) rfl (fun j hj => by rw [Nat.add_assoc]; exact hsp _ (by omega)) (fun j _ => by rw [Nat.add_assoc]; exact hfz _) hvs hone).mono ?_
        rintro e w' ⟨rfl, rfl⟩
        refine ⟨_, _, rfl, rowof _ _ _ (.inl hS) hr h4 ?_ (fun j hj => ?_), ?_⟩
        · rw [size_setCells]; exact hlt
        · have hh := (ins_cells (w := w) (b := g) (i := i) (n := i) (x := .int .i64 x) (by omega) hxl (fun j hj => by
            have := hcs j (xs[j]'(by omega)) (List.getElem?_eq_getElem (by omega))
            rw [Nat.zero_add] at this
            rw [List.getElem?_eq_getElem (by omega)]; exact this) (fun j hj => by have := hsp j (by omega); rw [Nat.zero_add] at this; exact this) j hj).2
          rw [← hh, Nat.zero_add, show xs.drop i = [] from List.drop_eq_nil_of_le (by omega)]
          rfl
        · exact keeps_setCells _ hS _ _ _ _ (Keeps.refl S w)
theorem DeleteI_any (S : Nat → Prop) (v : Value) (l : List Int) (i : Nat) (w : World) (hv : Own S w 3 1 v l.length (i64s l)) (hi : i < l.length) (hl : l.length ≤ 1000000) :
    Calls Tryd.prog 86 #[v, .int .i64 i, .int .i64 ((i : Int) + 1)] w fun e w' => ∃ a c, e = .returned (.slice a (l.length - 1) c) ∧ Sl S w' (.slice a (l.length - 1) c) (i64s (l.eraseIdx i)) ∧ Keeps S w w' := by
  have he : l.eraseIdx i = l.take i ++ l.drop (i + 1) := List.eraseIdx_eq_take_drop_succ ..
  rcases own_open hv with ⟨rfl, h0, h1⟩ | ⟨g, cap, cur, rfl, hS, hB, h3, h4, h5, h6⟩
  · omega
  · rw [Nat.mul_one] at h5 h6
    have hc : ∀ j u, (i64s l)[j]? = some u → w.cell? ⟨g, 0 + j, none⟩ = some u := fun j u hj => by
      rw [Nat.zero_add, blk_cell hB, ← hj, ← h6]
      have hjl : j < l.length := by rw [← i64s_length]; exact (List.getElem?_eq_some_iff.1 hj).1
      rw [List.getElem?_take, if_pos hjl]; simp
    have hH : Sort.Holds (Value.int .i64) w g 0 l.toArray := fun j hj => by
      have hj' : j < l.length := by simpa using hj
      refine ⟨hc j _ ?_, blk_free hB _⟩
      rw [i64s_get, List.getElem?_eq_getElem hj', getElem!_pos l.toArray j (by simpa using hj')]; rfl
    have h := Any.slices_Delete_int ly23 g 0 cap i (i + 1) l w hH h3 (by unfold maxLen at h4; omega) (by omega) (by omega)
    rw [show ((i + 1 : Nat) : Int) = (i : Int) + 1 by omega] at h
    refine h.mono ?_
    rintro e w' ⟨rfl, q, rfl⟩
    rw [Lib.putRow_eq_setCells (Value.int .i64) w g 0 l.toArray _ q hH (by simp; omega)]
    have hl1 : (i64s (l.eraseIdx i)).length = l.length - 1 := by rw [i64s_length, List.length_eraseIdx, if_pos hi]
    have hr := sl_of (K := S) (g := g) (c := cap) (xs := i64s (l.eraseIdx i)) (w := (w.drewN q).setCells g 0 ((l.take i ++ l.drop (i + 1) ++ List.replicate (i + 1 - i) 0).map (Value.int .i64))) hS (by omega) h4 (by rw [size_setCells]; exact blk_lt hB) (fun j u hj => by
      have hjl : j < l.length - 1 := by rw [← hl1]; exact (List.getElem?_eq_some_iff.1 hj).1
      rw [set_at (fun k hk => by
        have hk' : k < l.length := by simp at hk; omega
        have := hc k _ (List.getElem?_eq_getElem (by rw [i64s_length]; exact hk'))
        show (w.cell? ⟨g, 0 + k, none⟩).isSome = true
        rw [this]; rfl)]
      rw [if_pos ⟨Nat.zero_le _, by simp; omega⟩, List.getElem?_map, Nat.sub_zero, List.getElem?_append_left (by simp; omega), ← he, ← i64s_get]
      exact hj)
    rw [hl1] at hr
    refine ⟨_, _, by rw [show l.length - (i + 1 - i) = l.length - 1 by omega], ?_, ?_⟩
    · simpa using hr
    · exact keeps_setCells _ hS _ _ _ _ ((Keeps.refl S w).drewN q)
end Go.Proofs.YtgfekgceeigdiaaDoor
namespace Go.Proofs.YtgfekgceeigdiaaDoor
open Go.RowKit
attribute [local go_sem ↓] Go.wp_at_zero Go.wp_at_succ
/-- a bundle: its number, from, to, and its segment -/
structure Bu where
  i : Int
  f : Int
  t : Int
  g : Int
  o : Int
  a : Int
  s : Nat
  d : List Nat
def BuCells (K : Nat → Prop) (w : World) (c : Nat → Value) (x : Bu) : Prop :=
  c 0 = .int .i64 x.i ∧ c 1 = .int .i64 x.f ∧ c 2 = .int .i64 x.t ∧ c 3 = .int .i64 x.g ∧ c 4 = .int .i64 x.o ∧ c 5 = .int .i64 x.a ∧ c 6 = .int .u32 (x.s : Int) ∧ Sl K w (c 7) (u8s x.d)
theorem BuCells.keep {K S : Nat → Prop} {w w' : World} {c : Nat → Value} {x : Bu} (h : BuCells K w c x) (hk : Keeps S w w') (hd : ∀ b, b < w.heap.size → K b → ¬ S b) : BuCells K w' c x := by
  obtain ⟨h0, h1, h2, h3, h4, h5, h6, h7⟩ := h
  exact ⟨h0, h1, h2, h3, h4, h5, h6, h7.keep hk hd⟩
theorem BuCells.mono {K K' : Nat → Prop} {w : World} {c : Nat → Value} {x : Bu} (h : BuCells K w c x) (hd : ∀ b, b < w.heap.size → K b → K' b) : BuCells K' w c x := by
  obtain ⟨h0, h1, h2, h3, h4, h5, h6, h7⟩ := h
  exact ⟨h0, h1, h2, h3, h4, h5, h6, h7.mono hd⟩
theorem BuCells.congr {K : Nat → Prop} {w : World} {c c' : Nat → Value} {x : Bu} (h : BuCells K w c x) (e : ∀ j, j < 8 → c' j = c j) : BuCells K w c' x := by
  obtain ⟨h0, h1, h2, h3, h4, h5, h6, h7⟩ := h
  exact ⟨(e 0 (by omega)).trans h0, (e 1 (by omega)).trans h1, (e 2 (by omega)).trans h2, (e 3 (by omega)).trans h3, (e 4 (by omega)).trans h4, (e 5 (by omega)).trans h5, (e 6 (by omega)).trans h6, by rw [e 7 (by omega)]; exact h7⟩
def BuC (K : Nat → Prop) (w : World) (xs : List Value) (l : List Bu) : Prop := xs.length = l.length * 8 ∧ ∀ i x, l[i]? = some x → BuCells K w (fun j => xs.getD (i * 8 + j) undef) x
theorem BuC.keep {K S : Nat → Prop} {w w' : World} {xs : List Value} {l : List Bu} (h : BuC K w xs l) (hk : Keeps S w w') (hd : ∀ b, b < w.heap.size → K b → ¬ S b) : BuC K w' xs l := ⟨h.1, fun i x hi => (h.2 i x hi).keep hk hd⟩
theorem BuC.mono {K K' : Nat → Prop} {w : World} {xs : List Value} {l : List Bu} (h : BuC K w xs l) (hd : ∀ b, b < w.heap.size → K b → K' b) : BuC K' w xs l := ⟨h.1, fun i x hi => (h.2 i x hi).mono hd⟩
theorem BuC.nil (K : Nat → Prop) (w : World) : BuC K w [] [] := ⟨rfl, fun i x h => by simp at h⟩
theorem BuC.append {K : Nat → Prop} {w : World} {xs ys : List Value} {l m : List Bu} (h : BuC K w xs l) (h2 : BuC K w ys m) : BuC K w (xs ++ ys) (l ++ m) := by
  refine ⟨by rw [List.length_append, List.length_append, h.1, h2.1]; omega, fun i y hi => ?_⟩
  rcases Nat.lt_or_ge i l.length with hl | hl
  · rw [List.getElem?_append_left hl] at hi
    refine (h.2 i y hi).congr (fun j hj => ?_)
    unfold List.getD
    rw [List.getElem?_append_left (by rw [h.1]; omega)]
  · rw [List.getElem?_append_right hl] at hi
    refine (h2.2 _ y hi).congr (fun j hj => ?_)
    unfold List.getD
    rw [List.getElem?_append_right (by rw [h.1]; omega), h.1]
    congr 2; omega
theorem BuC.one {K : Nat → Prop} {w : World} {x : Bu} {a : Option Addr} {c : Nat} (h : Sl K w (.slice a x.d.length c) (u8s x.d)) : BuC K w [.int .i64 x.i, .int .i64 x.f, .int .i64 x.t, .int .i64 x.g, .int .i64 x.o, .int .i64 x.a, .int .u32 (x.s : Int), .slice a x.d.length c] [x] := by
  refine ⟨rfl, fun i y hi => ?_⟩
  match i, hi with
  | 0, hi => simp at hi; subst hi; exact ⟨rfl, rfl, rfl, rfl, rfl, rfl, rfl, h⟩
  | i + 1, hi => simp at hi
theorem BuC.ones {K : Nat → Prop} {w : World} {xs : List Value} {l : List Bu} (h : BuC K w xs l) : ∀ u ∈ xs, u.oneCell' = true := by
  intro u hu
  obtain ⟨p, hp, rfl⟩ := List.getElem_of_mem hu
  have hl := h.1
  have hi : p / 8 < l.length := by omega
  have key : ∀ j, p % 8 = j → xs[p] = xs.getD (p / 8 * 8 + j) undef := fun j hj => by
    have : p / 8 * 8 + j = p := by omega
    rw [this, List.getD, List.getElem?_eq_getElem hp]; rfl
  obtain ⟨c0, c1, c2, c3, c4, c5, c6, c7⟩ := h.2 _ _ (List.getElem?_eq_getElem hi)
  rcases (show p % 8 = 0 ∨ p % 8 = 1 ∨ p % 8 = 2 ∨ p % 8 = 3 ∨ p % 8 = 4 ∨ p % 8 = 5 ∨ p % 8 = 6 ∨ p % 8 = 7 by omega) with hj | hj | hj | hj | hj | hj | hj | hj
  · rw [key 0 hj]; exact (congrArg Value.oneCell' c0).trans rfl
  · rw [key 1 hj]; exact (congrArg Value.oneCell' c1).trans rfl
  · rw [key 2 hj]; exact (congrArg Value.oneCell' c2).trans rfl
  · rw [key 3 hj]; exact (congrArg Value.oneCell' c3).trans rfl
  · rw [key 4 hj]; exact (congrArg Value.oneCell' c4).trans rfl
  · rw [key 5 hj]; exact (congrArg Value.oneCell' c5).trans rfl
  · rw [key 6 hj]; exact (congrArg Value.oneCell' c6).trans rfl
  · rw [key 7 hj]
    obtain ⟨a, cap, e, _⟩ := c7.bytes
    exact (congrArg Value.oneCell' e).trans rfl
def Bus (K : Nat → Prop) (w : World) (v : Value) (l : List Bu) : Prop := ∃ xs, Row K w 8 v l.length xs ∧ BuC K w xs l
theorem Bus.keep {K S : Nat → Prop} {w w' : World} {v : Value} {l : List Bu} (h : Bus K w v l) (hk : Keeps S w w') (hd : ∀ b, b < w.heap.size → K b → ¬ S b) : Bus K w' v l := by
  obtain ⟨xs, h1, h2⟩ := h
  exact ⟨xs, h1.keep hk hd, h2.keep hk hd⟩
theorem Bus.mono {K K' : Nat → Prop} {w : World} {v : Value} {l : List Bu} (h : Bus K w v l) (hd : ∀ b, b < w.heap.size → K b → K' b) : Bus K' w v l := by
  obtain ⟨xs, h1, h2⟩ := h
  exact ⟨xs, h1.mono hd, h2.mono hd⟩
theorem Bus.nil (K : Nat → Prop) (w : World) : Bus K w (.slice none 0 0) [] := ⟨[], ⟨rfl, .inl ⟨rfl, rfl⟩⟩, BuC.nil _ _⟩
theorem Bus.form {K : Nat → Prop} {w : World} {v : Value} {l : List Bu} (h : Bus K w v l) : ∃ a c, v = .slice a l.length c ∧ l.length ≤ c ∧ c ≤ maxLen := by
  obtain ⟨xs, h1, _⟩ := h
  obtain ⟨a, c, e, g1, g2, _⟩ := h1.form
  exact ⟨a, c, e, g1, g2⟩
/-- segments in a row of the call's own; their bytes in KD -/
def BuP (KD : Nat → Prop) (B : Nat) (w : World) (v : Value) (l : List Bu) : Prop :=
  ∃ xs, Own (fun b => v.ownBlock = some b) w 59 8 v l.length xs ∧ (∀ b, v.ownBlock = some b → B ≤ b) ∧ BuC (fun b => KD b ∧ v.ownBlock ≠ some b) w xs l
theorem BuP.nil (KD : Nat → Prop) (B : Nat) (w : World) : BuP KD B w (.slice none 0 0) [] := ⟨[], Own.nil _ _ _ _, fun b h => by simp [Value.ownBlock] at h, BuC.nil _ _⟩
theorem BuP.bus {KD : Nat → Prop} {B : Nat} {w : World} {v : Value} {l : List Bu} (h : BuP KD B w v l) : Bus (fun b => KD b ∨ B ≤ b) w v l := by
  obtain ⟨xs, h1, h2, h3⟩ := h
  exact ⟨xs, h1.row.mono (fun b _ hb => .inr (h2 b hb)), h3.mono (fun b _ hb => .inl hb.1)⟩
theorem BuP.keep {KD : Nat → Prop} {B : Nat} {S : Nat → Prop} {w w' : World} {v : Value} {l : List Bu} (h : BuP KD B w v l) (hk : Keeps S w w') (hd : ∀ b, b < w.heap.size → (KD b ∨ B ≤ b) → ¬ S b) : BuP KD B w' v l := by
  obtain ⟨xs, h1, h2, h3⟩ := h
  exact ⟨xs, h1.keep hk (fun b hb hh => hd b hb (.inr (h2 b hh))), h2, h3.keep hk (fun b hb hh => hd b hb (.inl hh.1))⟩
theorem bup_append {KD : Nat → Prop} {B : Nat} {wr V w7 : World} {v v7 : Value} {l m : List Bu} {xs ns : List Value}
    (hge : ∀ b, v.ownBlock = some b → B ≤ b) (hc : BuC (fun b => KD b ∧ v.ownBlock ≠ some b) wr xs l)
    (hV : Keeps (fun _ => False) wr V) (hs : BuC (fun b => KD b ∧ v.ownBlock ≠ some b) V ns m) (hB : B ≤ V.heap.size)
    (h7 : Own (fun k => v.ownBlock = some k ∨ V.heap.size ≤ k) w7 59 8 v7 (l.length + m.length) (xs ++ ns)) (hk7 : Keeps (fun b => v.ownBlock = some b) V w7) :
    BuP KD B w7 v7 (l ++ m) := by
  have zV := hV.size
  have key : ∀ b, b < V.heap.size → (KD b ∧ v.ownBlock ≠ some b) → (KD b ∧ v7.ownBlock ≠ some b) ∧ v.ownBlock ≠ some b := fun b hb h => ⟨⟨h.1, fun e => by
    rcases h7.2 b e with h' | h'
    · exact h.2 h'
    · omega⟩, h.2⟩
  refine ⟨_, ⟨by rw [List.length_append]; exact h7.1, fun _ h => h⟩, fun b hb => ?_, ?_⟩
  · rcases h7.2 b hb with h | h
    · exact hge b h
    · omega
  · exact ((((hc.keep hV (fun _ _ _ h => h)).append hs).mono key).keep hk7 (fun b _ h1 h2 => h1.2 h2)).mono (fun b _ h => h.1)
theorem infoBu : (Tryd.prog.info? 59).map (fun i => (i.size, i.bytes)) = some (8, 80) := by kernel_rfl
theorem infoBuz : ((Tryd.prog.info? 59).bind (·.zero)).map (fun z => z.cells) = some #[.int .i64 0, .int .i64 0, .int .i64 0, .int .i64 0, .int .i64 0, .int .i64 0, .int .u32 0, .slice none 0 0] := by kernel_rfl
theorem bu_parts : ∃ i z, Tryd.prog.info? 59 = some i ∧ i.zero = some z ∧ i.size = 8 ∧ i.bytes = 80 ∧ z.cells.size = 8 := by
  obtain ⟨i, hi, h1⟩ := Option.map_eq_some_iff.1 infoBu
  have h2 := infoBuz
  rw [hi] at h2
  obtain ⟨z, hz, h3⟩ := Option.map_eq_some_iff.1 h2
  simp only [Prod.mk.injEq] at h1
  exact ⟨i, z, hi, hz, h1.1, h1.2, by rw [h3]; rfl⟩
theorem bus_cells {K : Nat → Prop} {w : World} {a : Option Addr} {n c : Nat} {l : List Bu} (h : Bus K w (.slice a n c) l) (hl : 0 < l.length) :
    ∃ b o, a = some ⟨b, o, none⟩ ∧ K b ∧ b < w.heap.size ∧ ∀ k x, l[k]? = some x → w.cell? ⟨b, o + k * 8, none⟩ = some (.int .i64 x.i) ∧ w.cell? ⟨b, o + k * 8 + 1, none⟩ = some (.int .i64 x.f) ∧ w.cell? ⟨b, o + k * 8 + 2, none⟩ = some (.int .i64 x.t) ∧ w.cell? ⟨b, o + k * 8 + 3, none⟩ = some (.int .i64 x.g) ∧ w.cell? ⟨b, o + k * 8 + 4, none⟩ = some (.int .i64 x.o) ∧ w.cell? ⟨b, o + k * 8 + 5, none⟩ = some (.int .i64 x.a) ∧ w.cell? ⟨b, o + k * 8 + 6, none⟩ = some (.int .u32 (x.s : Int)) ∧
      ∃ ad cd, w.cell? ⟨b, o + k * 8 + 7, none⟩ = some (.slice ad x.d.length cd) ∧ Sl K w (.slice ad x.d.length cd) (u8s x.d) := by
  obtain ⟨xs, hrow, hc⟩ := h
  obtain ⟨a', c', e, _, _, hel⟩ := hrow.form
  injection e with e1 e2 e3
  subst e1
  obtain ⟨b, o, ea, hK, hb, hcell⟩ := hel hl
  refine ⟨b, o, ea, hK, hb, fun k x hx => ?_⟩
  have hk : k < l.length := (List.getElem?_eq_some_iff.1 hx).1
  obtain ⟨t0, t1, t2, t3, t4, t5, t6, t7⟩ := hc.2 k x hx
  have key : ∀ j, j < 8 → w.cell? ⟨b, o + k * 8 + j, none⟩ = some (xs.getD (k * 8 + j) undef) := fun j hj => by rw [Nat.add_assoc]; exact hcell (k * 8 + j) (by omega)
  obtain ⟨ad, cd, e7, _⟩ := t7.bytes
  have e7' : xs.getD (k * 8 + 7) undef = .slice ad x.d.length cd := e7
  have h7 : Sl K w (.slice ad x.d.length cd) (u8s x.d) := by have h := t7; simp only [e7'] at h; exact h
  exact ⟨(key 0 (by omega)).trans (congrArg some t0), (key 1 (by omega)).trans (congrArg some t1), (key 2 (by omega)).trans (congrArg some t2), (key 3 (by omega)).trans (congrArg some t3), (key 4 (by omega)).trans (congrArg some t4), (key 5 (by omega)).trans (congrArg some t5), (key 6 (by omega)).trans (congrArg some t6), ad, cd, (key 7 (by omega)).trans (congrArg some e7'), h7⟩
theorem infoI : (Tryd.prog.info? 3).map (fun i => (i.zero, i.size, i.bytes)) = some (some (.int .i64 0), 1, 8) := by kernel_rfl
def NewI (w : World) (e : TypeId) (xs : List Value) (r : Ending) (w' : World) : Prop := ∃ a n c, r = .returned (.slice a n c) ∧ n = xs.length ∧ Own (fun k => w.heap.size ≤ k) w' e 1 (.slice a n c) n xs ∧ Keeps (fun _ => False) w w'
set_option maxRecDepth 100000 in
set_option maxHeartbeats 400000 in
theorem CloneI_any (K : Nat → Prop) (v : Value) (b : List Int) (w : World) (hv : Sl K w v (i64s b)) (hm : b.length ≤ 1000000) :
    Calls Tryd.prog 43 #[v] w fun e w' => NewI w 3 (i64s b) e w' := by
  obtain ⟨i0, hi, hz0, hz1, hz2⟩ := info_parts infoI
  have hv0 := hid hv
  have HM := hid hm; clear hm
  rcases hv.icases with ⟨rfl, rfl⟩ | ⟨bb, cap, rfl⟩
  · clear hv hv0
    have hq : ∀ (w : World) (a : Option Addr) (n c n' c' : Nat), (binOp .eql 42 (.slice a n c) (.slice none n' c')).run Tryd.prog w = .ok (.bool a.isNone) w := fun w a n c n' c' => Lib.run_eql_slice_nil w _ _ a n c n' c' Tryd.underlying42
    go_enter Tryd.func43, Tryd.ntmps43
    go_wp2
    go_ret
    exact ⟨none, 0, 0, rfl, rfl, Own.nil _ _ _ _, Keeps.refl _ _⟩
  · clear hv
    have hq : ∀ (w : World) (a : Option Addr) (n c n' c' : Nat), (binOp .eql 42 (.slice a n c) (.slice none n' c')).run Tryd.prog w = .ok (.bool a.isNone) w := fun w a n c n' c' => Lib.run_eql_slice_nil w _ _ a n c n' c' Tryd.underlying42
    have HS : Hd (Sl K (w.alloc (.cells #[] 3)) (.slice (some bb) b.length cap) (i64s b)) := hid (hv0.out.keep (keeps_alloc (fun _ => False) w (.cells #[] 3)) (fun _ _ _ h => h))
    generalize hbl : b.length = n at *
    have HBL := hid hbl; clear hbl
    have HO : Hd (Own (fun k => w.heap.size ≤ k) (w.alloc (.cells #[] 3)) 3 1 (.slice (some ⟨w.heap.size, 0, none⟩) 0 0) 0 []) :=
      hid ⟨World.ownsRow_lit w #[] 0 (Nat.zero_le _) (Nat.zero_le _) rfl, fun k hk => by injection hk with hk; simp at hk; omega⟩
    go_enter Tryd.func43, Tryd.ntmps43
    go_wp2_with (at_builtin; refine wpList_append_row rfl _ _ 42 rfl 3 i0 (.int .i64 0) 1 8 Tryd.underlying42 hi hz0 hz1 hz2 rfl (by decide) _ K _ _ _ _ rfl HO.out n _ rfl (sl_row HS.out (by simp [HBL.out])) (i64s_one _) ?h1 ?h2 ?_)
    case h1 => have := HM.out; simp [maxLen]; omega
    case h2 => have := HM.out; omega
    intro a1 cap1 w2 hown' hgrow; try intro _
    try simp only [Nat.zero_add, List.nil_append] at hown'
    have H1 := hid hown'; have H2 := hid hgrow; clear hown' hgrow
    go_wp2
    go_ret
    refine ⟨a1, n, cap1, by simp, by simp [HBL.out], ?_, ?_⟩
    · have h1 := H1.out.mono (K' := fun k => w.heap.size ≤ k) (fun b hb hh => by
        rcases hh with hh | hh
        · exact hh
        · omega)
      simpa [HBL.out] using h1
    · exact ((keeps_alloc _ w _).trans' H2.out (fun i hi hs => by omega))
set_option maxRecDepth 100000 in set_option maxHeartbeats 1000000 in
theorem Size_any (c0 c1 c2 c3 c4 c5 c6 : Value) (ad : Option Addr) (n cd : Nat) (w : World) (hn : n ≤ 100000000) :
    Calls Tryd.prog 25 #[.agg #[c0, c1, c2, c3, c4, c5, c6, .slice ad n cd]] w fun e w' => e = .returned (.int .i64 ((n : Int) + 16)) ∧ Keeps (fun _ => False) w w' := by
  have hw : IntKind.i64.wrap ((n : Int) + 16) = (n : Int) + 16 := IntWalk.i64_in _ (by omega)
  go_enter Tryd.func25, Tryd.ntmps25
  go_upto_region 1 with fail
  generalize hW : World.alloc w _ = W1
  have KS : Hd (Keeps (fun _ => False) w W1) := hid (by rw [← hW]; exact (Keeps.alloc (Keeps.refl (fun _ => False) w) _))
  have BA : Hd (Blk W1 w.heap.size #[c0, c1, c2, c3, c4, c5, c6, (.slice ad n cd)] 59) := hid (by rw [← hW]; exact (blk_new _ _ _))
  have HK : Hd (Keeps (fun _ => False) w W1) := hid KS.out
  have z_W1 : w.heap.size + 1 ≤ W1.heap.size := by rw [← hW]; simp
  clear hW KS
  have o_BA_7 : W1.cell? ⟨w.heap.size, 7, none⟩ = some ((.slice ad n cd)) := blk_cell BA.out 7
  go_wp2
  clear o_BA_7
  go_ret
  exact ⟨rfl, HK.out⟩
theorem keep8 (w : World) (b : Nat) (u0 u1 u2 u3 u4 u5 u6 u7 : Value) : Keeps (fun i => i = b) w ((((((((w.setCell ⟨b, 0, none⟩ u0).setCell ⟨b, 1, none⟩ u1).setCell ⟨b, 2, none⟩ u2).setCell ⟨b, 3, none⟩ u3).setCell ⟨b, 4, none⟩ u4).setCell ⟨b, 5, none⟩ u5).setCell ⟨b, 6, none⟩ u6).setCell ⟨b, 7, none⟩ u7) :=
  keq (keq (keq (keq (keq (keq (keq (keq (Keeps.refl _ _) _ _) _ _) _ _) _ _) _ _) _ _) _ _) _ _
theorem fin8 {w W : World} {b : Nat} {T : TypeId} {c0 c1 c2 c3 c4 c5 c6 c7 : Value} (hk : Keeps (fun _ => False) w W) (hb : w.heap.size ≤ b) (hB : Blk W b #[c0, c1, c2, c3, c4, c5, c6, c7] T) (u0 u1 u2 u3 u4 u5 u6 u7 : Value) :
    Keeps (fun _ => False) w ((((((((W.setCell ⟨b, 0, none⟩ u0).setCell ⟨b, 1, none⟩ u1).setCell ⟨b, 2, none⟩ u2).setCell ⟨b, 3, none⟩ u3).setCell ⟨b, 4, none⟩ u4).setCell ⟨b, 5, none⟩ u5).setCell ⟨b, 6, none⟩ u6).setCell ⟨b, 7, none⟩ u7) ∧
    Blk ((((((((W.setCell ⟨b, 0, none⟩ u0).setCell ⟨b, 1, none⟩ u1).setCell ⟨b, 2, none⟩ u2).setCell ⟨b, 3, none⟩ u3).setCell ⟨b, 4, none⟩ u4).setCell ⟨b, 5, none⟩ u5).setCell ⟨b, 6, none⟩ u6).setCell ⟨b, 7, none⟩ u7) b #[u0, u1, u2, u3, u4, u5, u6, u7] T := by
  have h := blk_set (blk_set (blk_set (blk_set (blk_set (blk_set (blk_set (blk_set hB 0 u0) 1 u1) 2 u2) 3 u3) 4 u4) 5 u5) 6 u6) 7 u7
  simp only [List.setIfInBounds_toArray, List.set_cons_zero, List.set_cons_succ] at h
  exact ⟨hk.trans' (keep8 W b u0 u1 u2 u3 u4 u5 u6 u7) (fun i hi h => by omega), h⟩
theorem keep4 (w : World) (b : Nat) (u0 u1 u2 u3 : Value) : Keeps (fun i => i = b) w ((((w.setCell ⟨b, 0, none⟩ u0).setCell ⟨b, 1, none⟩ u1).setCell ⟨b, 2, none⟩ u2).setCell ⟨b, 3, none⟩ u3) :=
  keq (keq (keq (keq (Keeps.refl _ _) _ _) _ _) _ _) _ _
theorem fin4 {w W : World} {b : Nat} {T : TypeId} {c0 c1 c2 c3 : Value} (hk : Keeps (fun _ => False) w W) (hb : w.heap.size ≤ b) (hB : Blk W b #[c0, c1, c2, c3] T) (u0 u1 u2 u3 : Value) :
    Keeps (fun _ => False) w ((((W.setCell ⟨b, 0, none⟩ u0).setCell ⟨b, 1, none⟩ u1).setCell ⟨b, 2, none⟩ u2).setCell ⟨b, 3, none⟩ u3) ∧
    Blk ((((W.setCell ⟨b, 0, none⟩ u0).setCell ⟨b, 1, none⟩ u1).setCell ⟨b, 2, none⟩ u2).setCell ⟨b, 3, none⟩ u3) b #[u0, u1, u2, u3] T := by
  have h := blk_set (blk_set (blk_set (blk_set hB 0 u0) 1 u1) 2 u2) 3 u3
  simp only [List.setIfInBounds_toArray, List.set_cons_zero, List.set_cons_succ] at h
  exact ⟨(((hk.setCell (.inr hb) _).setCell (.inr hb) _).setCell (.inr hb) _).setCell (.inr hb) _, h⟩
set_option maxRecDepth 100000 in set_option maxHeartbeats 1000000 in
theorem clone_any (x : Bu) (K : Nat → Prop) (ad : Option Addr) (cd : Nat) (w : World) (hx : Sl K w (.slice ad x.d.length cd) (u8s x.d)) (hn : x.d.length ≤ 1000000) :
    Calls Tryd.prog 27 #[.agg #[.int .i64 x.i, .int .i64 x.f, .int .i64 x.t, .int .i64 x.g, .int .i64 x.o, .int .i64 x.a, .int .u32 (x.s : Int), .slice ad x.d.length cd]] w fun e w' => ∃ a c, e = .returned (.agg #[.int .i64 x.i, .int .i64 x.f, .int .i64 x.t, .int .i64 x.g, .int .i64 x.o, .int .i64 x.a, .int .u32 (x.s : Int), .slice a x.d.length c]) ∧ Sl (fun b => w.heap.size ≤ b) w' (.slice a x.d.length c) (u8s x.d) ∧ Keeps (fun _ => False) w w' := by
  have HX := hid (hx.mono (K' := fun b => b < w.heap.size) (fun b h _ => h))
  clear hx
  obtain ⟨n, hnn⟩ : ∃ n, x.d.length = n := ⟨_, rfl⟩
  have HN := hid hnn
  rw [hnn] at HX hn ⊢
  clear hnn
  go_enter Tryd.func27, Tryd.ntmps27
  go_upto_region 1 with fail
  generalize hW : World.alloc (World.alloc w _) _ = W1
  have KS : Hd (Keeps (fun _ => False) w W1) := hid (by rw [← hW]; exact (Keeps.alloc (Keeps.alloc (Keeps.refl (fun _ => False) w) _) _))
  have HX' : Hd (Sl (fun b => b < w.heap.size) W1 (.slice ad n cd) (u8s x.d)) := hid (HX.out.keep KS.out (fun _ _ _ h => h))
  have BA : Hd (Blk W1 w.heap.size #[(.int .i64 x.i), (.int .i64 x.f), (.int .i64 x.t), (.int .i64 x.g), (.int .i64 x.o), (.int .i64 x.a), (.int .u32 (x.s : Int)), (.slice ad n cd)] 59) := hid (by rw [← hW]; exact (blk_alloc (blk_new _ _ _) _))
  have BR : Hd (Blk W1 (w.heap.size + 1) #[(.int .i64 0), (.int .i64 0), (.int .i64 0), (.int .i64 0), (.int .i64 0), (.int .i64 0), (.int .u32 0), (.slice none 0 0)] 59) := hid (by rw [← hW]; exact (blk_new' _ _ _ _ (by simp)))
  clear HX
  have HX := HX'
  clear HX'
  have HK : Hd (Keeps (fun _ => False) w W1) := hid KS.out
  have z_W1 : w.heap.size + 2 ≤ W1.heap.size := by rw [← hW]; simp
  clear hW KS
  generalize hb_BR : w.heap.size + 1 = b_BR at *
  have o_BA_7 : W1.cell? ⟨w.heap.size, 7, none⟩ = some ((.slice ad n cd)) := blk_cell BA.out 7
  have f_BA_7 : W1.frozen? ⟨w.heap.size, 7, none⟩ = false := blk_free BA.out 7
  go_wp2_with fail
  refine (Wi.CloneB_any _ _ x.d _ HX.out (by rw [HN.out]; omega)).mono ?_
  rintro e W2 ⟨a, n4, c, rfl, hn4, ho4, hk⟩
  obtain rfl : n = n4 := (by rw [hn4, u8s_length, HN.out])
  have HS4 : Hd (Sl (fun b => W1.heap.size ≤ b) _ (.slice a n c) (u8s x.d)) := hid (row_sl ho4.row hn4.symm)
  clear hn4 ho4
  clear o_BA_7 f_BA_7
  have HX' : Hd (Sl (fun b => b < w.heap.size) W2 (.slice ad n cd) (u8s x.d)) := hid (HX.out.keep hk (fun _ _ _ h => h))
  have BA' : Hd (Blk W2 w.heap.size #[(.int .i64 x.i), (.int .i64 x.f), (.int .i64 x.t), (.int .i64 x.g), (.int .i64 x.o), (.int .i64 x.a), (.int .u32 (x.s : Int)), (.slice ad n cd)] 59) := hid (blk_keep BA.out hk (fun h => h))
  have BR' : Hd (Blk W2 b_BR #[(.int .i64 0), (.int .i64 0), (.int .i64 0), (.int .i64 0), (.int .i64 0), (.int .i64 0), (.int .u32 0), (.slice none 0 0)] 59) := hid (blk_keep BR.out hk (fun h => h))
  clear HX BA BR
  have HX := HX'
  clear HX'
  have BA := BA'
  clear BA'
  have BR := BR'
  clear BR'
  have HK' : Hd (Keeps (fun _ => False) w W2) := hid (HK.out.trans hk)
  clear HK
  have HK := HK'
  clear HK'
  have z_W2 := hk.size
  clear hk
  have o_BA_7 : W2.cell? ⟨w.heap.size, 7, none⟩ = some ((.slice ad n cd)) := blk_cell BA.out 7
  have f_BA_7 : W2.frozen? ⟨w.heap.size, 7, none⟩ = false := blk_free BA.out 7
  go_upto_region 2 with fail
  clear o_BA_7 f_BA_7
  generalize hW : World.setCell W2 _ _ = W3
  have KS : Hd (Keeps (fun b => b = w.heap.size) W2 W3) := hid (by rw [← hW]; exact (Keeps.setCell (S := fun b => b = w.heap.size) (p := ⟨w.heap.size, 7, none⟩) (Keeps.refl (fun b => b = w.heap.size) W2) (.inl rfl) _))
  have HX' : Hd (Sl (fun b => b < w.heap.size) W3 (.slice ad n cd) (u8s x.d)) := hid (HX.out.keep KS.out (fun b _ h1 h2 => by omega))
  have BA' : Hd (Blk W3 w.heap.size #[(.int .i64 x.i), (.int .i64 x.f), (.int .i64 x.t), (.int .i64 x.g), (.int .i64 x.o), (.int .i64 x.a), (.int .u32 (x.s : Int)), (.slice a n c)] 59) := hid (by rw [← hW]; exact (blk_set BA.out 7 _))
  have BR' : Hd (Blk W3 b_BR #[(.int .i64 0), (.int .i64 0), (.int .i64 0), (.int .i64 0), (.int .i64 0), (.int .i64 0), (.int .u32 0), (.slice none 0 0)] 59) := hid (by rw [← hW]; exact (blk_other BR.out (by omega) _ _))
  have HS4' : Hd (Sl (fun b => W1.heap.size ≤ b) W3 (.slice a n c) (u8s x.d)) := hid (HS4.out.keep KS.out (fun b _ h1 h2 => by omega))
  clear HX BA BR HS4
  have HX := HX'
  clear HX'
  have BA := BA'
  clear BA'
  have BR := BR'
  clear BR'
  have HS4 := HS4'
  clear HS4'
  have HK' : Hd (Keeps (fun _ => False) w W3) := hid (HK.out.trans' KS.out (fun i hi h => by omega))
  clear HK
  have HK := HK'
  clear HK'
  have z_W3 : W2.heap.size + 0 ≤ W3.heap.size := by rw [← hW]; simp
  clear hW KS
  have o_BA_0 : W3.cell? ⟨w.heap.size, 0, none⟩ = some ((.int .i64 x.i)) := blk_cell BA.out 0
  have o_BA_1 : W3.cell? ⟨w.heap.size, 1, none⟩ = some ((.int .i64 x.f)) := blk_cell BA.out 1
  have o_BA_2 : W3.cell? ⟨w.heap.size, 2, none⟩ = some ((.int .i64 x.t)) := blk_cell BA.out 2
  have o_BA_3 : W3.cell? ⟨w.heap.size, 3, none⟩ = some ((.int .i64 x.g)) := blk_cell BA.out 3
  have o_BA_4 : W3.cell? ⟨w.heap.size, 4, none⟩ = some ((.int .i64 x.o)) := blk_cell BA.out 4
  have o_BA_5 : W3.cell? ⟨w.heap.size, 5, none⟩ = some ((.int .i64 x.a)) := blk_cell BA.out 5
  have o_BA_6 : W3.cell? ⟨w.heap.size, 6, none⟩ = some ((.int .u32 (x.s : Int))) := blk_cell BA.out 6
  have o_BA_7 : W3.cell? ⟨w.heap.size, 7, none⟩ = some ((.slice a n c)) := blk_cell BA.out 7
  have o_BR_0 : W3.cell? ⟨b_BR, 0, none⟩ = some ((.int .i64 0)) := blk_cell BR.out 0
  have o_BR_1 : W3.cell? ⟨b_BR, 1, none⟩ = some ((.int .i64 0)) := blk_cell BR.out 1
  have o_BR_2 : W3.cell? ⟨b_BR, 2, none⟩ = some ((.int .i64 0)) := blk_cell BR.out 2
  have o_BR_3 : W3.cell? ⟨b_BR, 3, none⟩ = some ((.int .i64 0)) := blk_cell BR.out 3
  have o_BR_4 : W3.cell? ⟨b_BR, 4, none⟩ = some ((.int .i64 0)) := blk_cell BR.out 4
  have o_BR_5 : W3.cell? ⟨b_BR, 5, none⟩ = some ((.int .i64 0)) := blk_cell BR.out 5
  have o_BR_6 : W3.cell? ⟨b_BR, 6, none⟩ = some ((.int .u32 0)) := blk_cell BR.out 6
  have o_BR_7 : W3.cell? ⟨b_BR, 7, none⟩ = some ((.slice none 0 0)) := blk_cell BR.out 7
  have f_BR_0 : W3.frozen? ⟨b_BR, 0, none⟩ = false := blk_free BR.out 0
  have f_BR_1 : W3.frozen? ⟨b_BR, 1, none⟩ = false := blk_free BR.out 1
  have f_BR_2 : W3.frozen? ⟨b_BR, 2, none⟩ = false := blk_free BR.out 2
  have f_BR_3 : W3.frozen? ⟨b_BR, 3, none⟩ = false := blk_free BR.out 3
  have f_BR_4 : W3.frozen? ⟨b_BR, 4, none⟩ = false := blk_free BR.out 4
  have f_BR_5 : W3.frozen? ⟨b_BR, 5, none⟩ = false := blk_free BR.out 5
  have f_BR_6 : W3.frozen? ⟨b_BR, 6, none⟩ = false := blk_free BR.out 6
  have f_BR_7 : W3.frozen? ⟨b_BR, 7, none⟩ = false := blk_free BR.out 7
  go_wp2
  clear o_BA_0 o_BA_1 o_BA_2 o_BA_3 o_BA_4 o_BA_5 o_BA_6 o_BA_7 o_BR_0 o_BR_1 o_BR_2 o_BR_3 o_BR_4 o_BR_5 o_BR_6 o_BR_7 f_BR_0 f_BR_1 f_BR_2 f_BR_3 f_BR_4 f_BR_5 f_BR_6 f_BR_7
  obtain ⟨HV2, B3⟩ := fin8 HK.out (show w.heap.size ≤ b_BR by omega) BR.out (.int .i64 x.i) (.int .i64 x.f) (.int .i64 x.t) (.int .i64 x.g) (.int .i64 x.o) (.int .i64 x.a) (.int .u32 (x.s : Int)) (.slice a n c)
  have r0 := blk_cell B3 0
  have r1 := blk_cell B3 1
  have r2 := blk_cell B3 2
  have r3 := blk_cell B3 3
  have r4 := blk_cell B3 4
  have r5 := blk_cell B3 5
  have r6 := blk_cell B3 6
  have r7 := blk_cell B3 7
  refine bodyPost_ret (v := .agg #[.int .i64 x.i, .int .i64 x.f, .int .i64 x.t, .int .i64 x.g, .int .i64 x.o, .int .i64 x.a, .int .u32 (x.s : Int), .slice a n c]) (by simp [results, Tryd.results27, go_sem, r0, r1, r2, r3, r4, r5, r6, r7]) rfl ?_
  exact ⟨a, c, rfl, (HS4.out.keep (keep8 _ b_BR (.int .i64 x.i) (.int .i64 x.f) (.int .i64 x.t) (.int .i64 x.g) (.int .i64 x.o) (.int .i64 x.a) (.int .u32 (x.s : Int)) (.slice a n c)) (fun b h1 h2 h3 => by omega)).mono (fun b _ h => by omega), HV2⟩
set_option maxRecDepth 100000 in set_option maxHeartbeats 1000000 in
theorem has_any (K : Nat → Prop) (v : Value) (l : List Int) (x : Int) (w : World) (hv : Sl K w v (i64s l)) (hn : l.length ≤ 1000000) (hs : l.Pairwise (· ≤ ·)) :
    Calls Tryd.prog 23 #[v, .int .i64 x] w fun e w' => e = .returned (.bool (l.contains x)) ∧ Drawn w w' := by
  have hb := BinSearch_any K v l x w hv hn hs
  obtain ⟨a, c, rfl, -⟩ := hv.ints
  generalize l.contains x = r at *
  generalize l.countP (· < x) = q at *
  generalize l.length = n at *
  clear hv hs
  go_enter Tryd.func23, Tryd.ntmps23
  go_wp2_with (go_at_call 42; refine hb.mono ?_; rintro e w1 ⟨rfl, ⟨q9, rfl⟩⟩)
  go_ret
  exact ⟨rfl, q9, rfl⟩
end Go.Proofs.YtgfekgceeigdiaaDoor
namespace Go.Proofs.YtgfekgceeigdiaaDoor
open Go.RowKit
attribute [local go_sem ↓] Go.wp_at_zero Go.wp_at_succ
def posI (l : List Int) (x : Int) : Nat := l.countP (· < x)
def insI (l : List Int) (x : Int) : List Int := l.take (posI l x) ++ x :: l.drop (posI l x)
theorem posI_le (l : List Int) (x : Int) : posI l x ≤ l.length := List.countP_le_length
theorem posI_at : ∀ {l : List Int} {x : Int}, l.Pairwise (· < ·) → x ∈ l → posI l x < l.length ∧ l.eraseIdx (posI l x) = l.erase x := by
  intro l
  induction l with
  | nil => intro x _ h; cases h
  | cons y l ih =>
    intro x h hx
    obtain ⟨h1, h2⟩ := List.pairwise_cons.1 h
    unfold posI
    rw [List.countP_cons]
    by_cases e : y = x
    · subst e
      have h0 : l.countP (· < y) = 0 := by
        rw [List.countP_eq_zero]
        intro z hz; have := h1 z hz; simp; omega
      rw [h0]
      simp
    · have hxl : x ∈ l := by
        rcases List.mem_cons.1 hx with hx | hx
        · exact absurd hx.symm e
        · exact hx
      obtain ⟨g1, g2⟩ := ih h2 hxl
      unfold posI at g1 g2
      have hlt : y < x := h1 x hxl
      rw [if_pos (by simpa using hlt), List.eraseIdx_cons_succ, g2, List.erase_cons_tail (by simpa using e)]
      exact ⟨by simp; omega, rfl⟩
theorem sorted_le {l : List Int} (h : l.Pairwise (· < ·)) : l.Pairwise (· ≤ ·) := h.imp (fun h => by omega)
set_option maxRecDepth 100000 in set_option maxHeartbeats 1000000 in
theorem insert_yes (S : Nat → Prop) (v : Value) (l : List Int) (x : Int) (w : World) (hv : Own S w 3 1 v l.length (i64s l)) (hn : l.length ≤ 1000000) (hs : l.Pairwise (· < ·)) (hx : x ∉ l) :
    Calls Tryd.prog 28 #[v, .int .i64 x] w fun e w' => ∃ a c, e = .returned (.tuple #[.slice a (l.length + 1) c, .bool true]) ∧ Sl (fun b => S b ∨ w.heap.size ≤ b) w' (.slice a (l.length + 1) c) (i64s (insI l x)) ∧ Keeps S w w' := by
  have hv' : Sl S w v (i64s l) := row_sl hv.row (i64s_length l)
  have hb := BinSearch_any S v l x w hv' hn (sorted_le hs)
  rw [show l.contains x = false from by simpa using hx] at hb
  have hin : ∀ q9 : Nat, Calls Tryd.prog 44 #[v, .int .i64 (posI l x : Nat), .slice (some ⟨w.heap.size, 0, none⟩) 1 1] ((w.drewN q9).alloc (.cells #[.int .i64 x] 3)) fun e w' => ∃ a c, e = .returned (.slice a (l.length + 1) c) ∧ Hd (Sl (fun b => S b ∨ w.heap.size ≤ b) w' (.slice a (l.length + 1) c) (i64s (insI l x))) ∧ Hd (Keeps S w w') := fun q9 => by
    refine (Insert_any S v l (posI l x) x w.heap.size ((w.drewN q9).alloc (.cells #[.int .i64 x] 3)) ((hv.drewN q9).alloc _) (posI_le l x) (blk_new (w.drewN q9) _ _) (fun h => ?_) hn).mono ?_
    · have := (hv.1.lt _ h).2; omega
    · rintro e w' ⟨a, c, rfl, h1, h2⟩
      exact ⟨a, c, rfl, hid (h1.mono (fun b _ h => by rcases h with h | h; exact .inl h; exact .inr (by simp at h; omega))), hid ((((Keeps.refl S w).drewN q9).alloc _).trans h2)⟩
  unfold posI at hin
  obtain ⟨a, c, rfl, -⟩ := hv'.ints
  have HQ := hid (posI_le l x)
  obtain ⟨q, hq⟩ : ∃ q, l.countP (· < x) = q := ⟨_, rfl⟩
  rw [hq] at hin hb
  generalize hys : insI l x = ys at *
  generalize l.length = n at *
  clear hv hv' hs hq hys
  go_enter Tryd.func28, Tryd.ntmps28
  go_wp2_with (first | (go_at_call 42; refine hb.mono ?_; rintro e w1 ⟨rfl, ⟨q9, rfl⟩⟩) | (go_at_call 44; refine (hin _).mono ?_; rintro e w1 ⟨a1, c1, rfl, h1, h2⟩))
  go_ret2
  exact ⟨a1, c1, rfl, h1.out, h2.out⟩
set_option maxRecDepth 100000 in set_option maxHeartbeats 1000000 in
theorem remove_yes (S : Nat → Prop) (v : Value) (l : List Int) (x : Int) (w : World) (hv : Own S w 3 1 v l.length (i64s l)) (hn : l.length ≤ 1000000) (hs : l.Pairwise (· < ·)) (hx : x ∈ l) :
    Calls Tryd.prog 71 #[v, .int .i64 x] w fun e w' => ∃ a c, e = .returned (.slice a (l.length - 1) c) ∧ Sl S w' (.slice a (l.length - 1) c) (i64s (l.erase x)) ∧ Keeps S w w' := by
  have hv' : Sl S w v (i64s l) := row_sl hv.row (i64s_length l)
  have hb := BinSearch_any S v l x w hv' hn (sorted_le hs)
  rw [show l.contains x = true from by simpa using hx] at hb
  obtain ⟨p1, p2⟩ := posI_at hs hx
  have hin : ∀ q9 : Nat, Calls Tryd.prog 86 #[v, .int .i64 (posI l x : Nat), .int .i64 (((posI l x : Nat) : Int) + 1)] (w.drewN q9) fun e w' => ∃ a c, e = .returned (.slice a (l.length - 1) c) ∧ Hd (Sl S w' (.slice a (l.length - 1) c) (i64s (l.erase x))) ∧ Hd (Keeps S w w') := fun q9 => by
    refine (DeleteI_any S v l (posI l x) (w.drewN q9) (hv.drewN q9) p1 hn).mono ?_
    rintro e w' ⟨a, c, rfl, h1, h2⟩
    rw [p2] at h1
    exact ⟨a, c, rfl, hid h1, hid (((Keeps.refl S w).drewN q9).trans h2)⟩
  unfold posI at hin p1
  obtain ⟨a, c, rfl, -⟩ := hv'.ints
  obtain ⟨q, hq⟩ : ∃ q, l.countP (· < x) = q := ⟨_, rfl⟩
  rw [hq] at hin hb p1
  have hw : IntKind.i64.wrap ((q : Int) + 1) = (q : Int) + 1 := IntWalk.i64_in _ (by omega)
  generalize hys : l.erase x = ys at *
  generalize l.length = n at *
  clear hv hv' hs hq hys p2 hx
  go_enter Tryd.func71, Tryd.ntmps71
  go_wp2_with (first | (go_at_call 42; refine hb.mono ?_; rintro e w1 ⟨rfl, ⟨q9, rfl⟩⟩) | (go_at_call 86; refine (hin _).mono ?_; rintro e w1 ⟨a1, c1, rfl, h1, h2⟩))
  go_ret
  exact ⟨a1, c1, rfl, h1.out, h2.out⟩
set_option maxRecDepth 100000 in set_option maxHeartbeats 1000000 in
theorem remove_no (S : Nat → Prop) (v : Value) (l : List Int) (x : Int) (w : World) (hv : Sl S w v (i64s l)) (hn : l.length ≤ 1000000) (hs : l.Pairwise (· < ·)) (hx : x ∉ l) :
    Calls Tryd.prog 71 #[v, .int .i64 x] w fun e w' => e = .returned v ∧ Keeps (fun _ => False) w w' := by
  have hb := BinSearch_any S v l x w hv hn (sorted_le hs)
  rw [show l.contains x = false from by simpa using hx] at hb
  obtain ⟨a, c, rfl, -⟩ := hv.ints
  generalize l.countP (· < x) = q at *
  generalize l.length = n at *
  clear hv hs
  go_enter Tryd.func71, Tryd.ntmps71
  go_wp2_with (go_at_call 42; refine hb.mono ?_; rintro e w1 ⟨rfl, ⟨q9, rfl⟩⟩)
  go_ret
  exact ⟨rfl, (Keeps.refl _ _).drewN _⟩
def usedL (l : List Bu) : Int := (l.map (fun x => (x.d.length : Int) + 16)).sum
theorem usedL_take {l : List Bu} {k : Nat} {x : Bu} (h : l[k]? = some x) : usedL (l.take (k + 1)) = usedL (l.take k) + ((x.d.length : Int) + 16) := by
  unfold usedL
  rw [List.take_add_one, h]
  simp
theorem usedL_b : ∀ {l : List Bu}, (∀ x ∈ l, x.d.length ≤ 1000000) → 0 ≤ usedL l ∧ usedL l ≤ l.length * 1000016 := by
  intro l
  induction l with
  | nil => intro _; simp [usedL]
  | cons x l ih =>
    intro h
    have h1 := ih (fun y hy => h y (List.mem_cons_of_mem _ hy))
    have h2 := h x (List.mem_cons_self ..)
    unfold usedL at *
    simp only [List.map_cons, List.sum_cons, List.length_cons]
    omega
set_option maxRecDepth 100000 in set_option maxHeartbeats 1000000 in
theorem Used_any (l : List Bu) (K : Nat → Prop) (q : Int) (ab : Option Addr) (cb : Nat) (vp vs : Value) (w : World) (hv : Bus K w (.slice ab l.length cb) l) (hl : l.length ≤ 1000) (hd : ∀ x ∈ l, x.d.length ≤ 1000000) :
    Calls Tryd.prog 24 #[.agg #[.int .i64 q, .slice ab l.length cb, vp, vs]] w fun e w' => e = .returned (.int .i64 (usedL l)) ∧ Keeps (fun _ => False) w w' := by
  have HV := hid (hv.mono (K' := fun b => b < w.heap.size) (fun b h _ => h)); have HD := hid hd
  clear hv hd
  obtain ⟨n, hnn⟩ : ∃ n, l.length = n := ⟨_, rfl⟩
  have HN := hid hnn
  rw [hnn] at HV hl ⊢
  clear hnn
  go_enter Tryd.func24, Tryd.ntmps24
  go_upto_region 1 with fail
  generalize hW : World.alloc w _ = W1
  have KS : Hd (Keeps (fun _ => False) w W1) := hid (by rw [← hW]; exact (Keeps.alloc (Keeps.refl (fun _ => False) w) _))
  have HV' : Hd (Bus (fun b => b < w.heap.size) W1 (.slice ab n cb) l) := hid (HV.out.keep KS.out (fun _ _ _ h => h))
  have BA : Hd (Blk W1 w.heap.size #[(.int .i64 q), (.slice ab n cb), vp, vs] 44) := hid (by rw [← hW]; exact (blk_new _ _ _))
  clear HV
  have HV := HV'
  clear HV'
  have HK : Hd (Keeps (fun _ => False) w W1) := hid KS.out
  have z_W1 : w.heap.size + 1 ≤ W1.heap.size := by rw [← hW]; simp
  clear hW KS
  have o_BA_1 : W1.cell? ⟨w.heap.size, 1, none⟩ = some ((.slice ab n cb)) := blk_cell BA.out 1
  go_wp2_with fail
  clear o_BA_1
  go_loopw [3, 9] (fun sv iv wr => ∃ k : Nat, sv = .int .i64 (usedL (l.take k)) ∧ iv = .int .i64 (k : Int) ∧ k ≤ n ∧ Hd (Keeps (fun _ => False) W1 wr)) (fun _ iv _ => n - (intOf iv).toNat)
  case atStart => exact ⟨0, rfl, rfl, Nat.zero_le _, hid (Keeps.refl _ _)⟩
  case round =>
    obtain ⟨V, rfl⟩ : ∃ V, V = wr := ⟨_, rfl⟩
    obtain ⟨k, rfl, rfl, hk, HKR⟩ := hrel
    by_cases hlt : k < n
    · have q1 : (k : Int) < n := by omega
      have q2 : (0 : Int) ≤ k := by omega
      obtain ⟨bx, ox, rfl, -, -, hc⟩ := bus_cells HV.out (by rw [HN.out]; omega)
      have hkl : k < l.length := by rw [HN.out]; exact hlt
      obtain ⟨x, hxk⟩ : ∃ x, l[k]? = some x := ⟨l[k], List.getElem?_eq_getElem hkl⟩
      obtain ⟨e0, e1, e2, e3, e4, e5, e6, ad, cd, e7, -⟩ := hc k x hxk
      have m0 := keep_cell HKR.out (fun h => h) e0
      have m1 := keep_cell HKR.out (fun h => h) e1
      have m2 := keep_cell HKR.out (fun h => h) e2
      have m3 := keep_cell HKR.out (fun h => h) e3
      have m4 := keep_cell HKR.out (fun h => h) e4
      have m5 := keep_cell HKR.out (fun h => h) e5
      have m6 := keep_cell HKR.out (fun h => h) e6
      have m7 := keep_cell HKR.out (fun h => h) e7
      have HT := hid (usedL_take hxk)
      have hdx := HD.out x (List.mem_of_getElem? hxk)
      have hub := usedL_b (l := l.take k) (fun y hy => HD.out y (List.mem_of_mem_take hy))
      have hlk : (l.take k).length ≤ 1000 := by rw [List.length_take]; omega
      have hub2 : usedL (l.take k) ≤ 1000 * 1000016 := Int.le_trans hub.2 (by omega)
      have hub1 := hub.1
      clear e0 e1 e2 e3 e4 e5 e6 e7 hc hxk hkl hub hlk
      generalize usedL (l.take k) = u at *
      have hw : IntKind.i64.wrap (u + ((x.d.length : Int) + 16)) = u + ((x.d.length : Int) + 16) := IntWalk.i64_in _ (by omega)
      go_upto_region 5 with fail
      clear m0 m1 m2 m3 m4 m5 m6 m7
      generalize hW : World.alloc V _ = V1
      have KS : Hd (Keeps (fun _ => False) V V1) := hid (by rw [← hW]; exact (Keeps.alloc (Keeps.refl (fun _ => False) V) _))
      have BX : Hd (Blk V1 V.heap.size #[(.int .i64 x.i), (.int .i64 x.f), (.int .i64 x.t), (.int .i64 x.g), (.int .i64 x.o), (.int .i64 x.a), (.int .u32 (x.s : Int)), (.slice ad x.d.length cd)] 59) := hid (by rw [← hW]; exact (blk_new _ _ _))
      have HK : Hd (Keeps (fun _ => False) V V1) := hid KS.out
      have z_V1 : V.heap.size + 1 ≤ V1.heap.size := by rw [← hW]; simp
      clear hW KS
      have o_BX_0 : V1.cell? ⟨V.heap.size, 0, none⟩ = some ((.int .i64 x.i)) := blk_cell BX.out 0
      have o_BX_1 : V1.cell? ⟨V.heap.size, 1, none⟩ = some ((.int .i64 x.f)) := blk_cell BX.out 1
      have o_BX_2 : V1.cell? ⟨V.heap.size, 2, none⟩ = some ((.int .i64 x.t)) := blk_cell BX.out 2
      have o_BX_3 : V1.cell? ⟨V.heap.size, 3, none⟩ = some ((.int .i64 x.g)) := blk_cell BX.out 3
      have o_BX_4 : V1.cell? ⟨V.heap.size, 4, none⟩ = some ((.int .i64 x.o)) := blk_cell BX.out 4
      have o_BX_5 : V1.cell? ⟨V.heap.size, 5, none⟩ = some ((.int .i64 x.a)) := blk_cell BX.out 5
      have o_BX_6 : V1.cell? ⟨V.heap.size, 6, none⟩ = some ((.int .u32 (x.s : Int))) := blk_cell BX.out 6
      have o_BX_7 : V1.cell? ⟨V.heap.size, 7, none⟩ = some ((.slice ad x.d.length cd)) := blk_cell BX.out 7
      go_wp2_with fail
      refine (Size_any _ _ _ _ _ _ _ _ _ _ _ (by omega)).mono ?_
      rintro e V2 ⟨rfl, hk⟩
      clear o_BX_0 o_BX_1 o_BX_2 o_BX_3 o_BX_4 o_BX_5 o_BX_6 o_BX_7
      have BX' : Hd (Blk V2 V.heap.size #[(.int .i64 x.i), (.int .i64 x.f), (.int .i64 x.t), (.int .i64 x.g), (.int .i64 x.o), (.int .i64 x.a), (.int .u32 (x.s : Int)), (.slice ad x.d.length cd)] 59) := hid (blk_keep BX.out hk (fun h => h))
      clear BX
      have BX := BX'
      clear BX'
      have HK' : Hd (Keeps (fun _ => False) V V2) := hid (HK.out.trans hk)
      clear HK
      have HK := HK'
      clear HK'
      have z_V2 := hk.size
      clear hk
      have HKF : Hd (Keeps (fun _ => False) W1 V2) := hid (HKR.out.trans HK.out)
      go_wp2
      go_roundw
      case rel => exact ⟨k + 1, by rw [HT.out], by go_num, by omega, HKF⟩
      case measure => simp [intOf]; omega
    · have hkn : k = n := by omega
      have q1 : ¬ ((k : Int) < n) := by omega
      have HT : Hd (l.take k = l) := hid (List.take_of_length_le (by rw [HN.out, hkn]; exact Nat.le_refl _))
      rw [HT.out]
      subst hkn
      go_wp2
      go_ret
      exact ⟨rfl, HK.out.trans HKR.out⟩
end Go.Proofs.YtgfekgceeigdiaaDoor
