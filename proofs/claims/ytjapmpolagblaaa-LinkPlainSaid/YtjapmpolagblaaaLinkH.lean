/- link.Send$1, slices.IndexFunc over fates; flights behind put. -/
import Derived.Test.YtjapmpolagblaaaLinkG
namespace Go.Proofs.Ytjapmpolagblaaa
open Go.RowKit
attribute [local go_sem ↓] Go.wp_at_zero Go.wp_at_succ
theorem FlCells.congr {K : Nat → Prop} {w : World} {c c' : Nat → Value} {x : Flt} (h : FlCells K w c x) (e : ∀ j, j < 5 → c' j = c j) : FlCells K w c' x := by
  obtain ⟨h0, h1, h2, h3, h4⟩ := h
  refine ⟨(e 0 (by omega)).trans h0, (e 1 (by omega)).trans h1, (e 2 (by omega)).trans h2, (e 3 (by omega)).trans h3, ?_⟩
  rw [e 4 (by omega)]; exact h4
theorem getD_put {xs cx : List Value} {k m i j : Nat} (hx : xs.length = m * 5) (hc : cx.length = 5) (hk : k ≤ m) (hj : j < 5) :
    (xs.take (k * 5) ++ cx ++ xs.drop (k * 5)).getD (i * 5 + j) undef = if i < k then xs.getD (i * 5 + j) undef else if i = k then cx.getD j undef else xs.getD ((i - 1) * 5 + j) undef := by
  have ht : (xs.take (k * 5)).length = k * 5 := by rw [List.length_take]; omega
  unfold List.getD
  split
  · rename_i h
    rw [List.append_assoc, List.getElem?_append_left (by omega), List.getElem?_take, if_pos (by omega)]
  · rename_i h
    split
    · rename_i h2
      subst h2
      rw [List.append_assoc, List.getElem?_append_right (by omega), ht, List.getElem?_append_left (by omega)]
      congr 2; omega
    · rename_i h2
      rw [List.getElem?_append_right (by rw [List.length_append]; omega), List.length_append, ht, hc, List.getElem?_drop]
      congr 2; omega
theorem putL_get {l : List Flt} {x y : Flt} {i : Nat} (h : (putL l x)[i]? = some y) : (i < putK l x ∧ l[i]? = some y) ∨ (i = putK l x ∧ x = y) ∨ (putK l x < i ∧ l[i - 1]? = some y) := by
  have hk := putK_le l x
  unfold putL at h
  generalize putK l x = k at *
  have ht : (l.take k).length = k := by rw [List.length_take]; omega
  rcases Nat.lt_trichotomy i k with hi | hi | hi
  · left
    rw [List.getElem?_append_left (by omega), List.getElem?_take, if_pos hi] at h
    exact ⟨hi, h⟩
  · right; left
    rw [List.getElem?_append_right (by omega), ht, hi, Nat.sub_self] at h
    exact ⟨hi, by simpa using h⟩
  · right; right
    rw [List.getElem?_append_right (by omega), ht, List.getElem?_cons, if_neg (by omega), List.getElem?_drop] at h
    refine ⟨hi, ?_⟩
    rw [show i - 1 = k + (i - k - 1) by omega]; exact h
def PutFl (K : Nat → Prop) (w : World) (l : List Flt) (x : Flt) (r : Ending) (w' : World) : Prop := ∃ a c xs, r = .returned (.slice a (l.length + 1) c) ∧ Own (fun b => w.heap.size ≤ b) w' 59 5 (.slice a (l.length + 1) c) (putL l x).length xs ∧
  (∀ i y, (putL l x)[i]? = some y → FlCells (fun b => K b ∧ b < w.heap.size) w' (fun j => xs.getD (i * 5 + j) undef) y) ∧ Keeps (fun _ => False) w w'
theorem put_fl (K : Nat → Prop) (v : Value) (l : List Flt) (x : Flt) (ad : Option Addr) (cd : Nat) (w : World) (hl : Fls K w v l) (hx : Sl K w (.slice ad x.d.length cd) (u8s x.d)) (hm : l.length ≤ 1000000) :
    Calls Try.prog 23 #[v, .agg #[.int .i64 x.t, .int .i64 x.n, .int .i64 x.f, .int .i64 x.g, .slice ad x.d.length cd]] w fun e w' => PutFl K w l x e w' := by
  obtain ⟨xs, hrow, hcells⟩ := hl
  refine (put_any v l xs x ad cd w (hrow.mono (fun b h _ => h)) (fl_one (by have := hrow.1; omega) hcells) (fun i y hi => ⟨(hcells i y hi).1, (hcells i y hi).2.1⟩) hm).mono ?_
  rintro e w' ⟨a, c, rfl, ho, hk⟩
  have hlen := putL_length l x
  refine ⟨a, c, _, rfl, by rw [hlen]; exact ho, fun i y hy => ?_, hk⟩
  have hsz : ∀ {c : Nat → Value} {x : Flt}, FlCells K w c x → FlCells (fun b => K b ∧ b < w.heap.size) w' c x := fun h =>
    (FlCells.keep ⟨h.1, h.2.1, h.2.2.1, h.2.2.2.1, h.2.2.2.2.mono (K' := fun b => K b ∧ b < w.heap.size) (fun b h1 h2 => ⟨h2, h1⟩)⟩ hk (fun _ _ _ h => h))
  have hg : ∀ j, j < 5 → _ := fun j hj => getD_put (xs := xs) (cx := fltCells x ad cd) (k := putK l x) (m := l.length) (i := i) (j := j) hrow.1 rfl (putK_le l x) hj
  rcases putL_get hy with ⟨h1, h2⟩ | ⟨h1, rfl⟩ | ⟨h1, h2⟩
  · exact (hsz (hcells i y h2)).congr (fun j hj => by rw [hg j hj, if_pos h1])
  · exact (hsz (c := fun j => (fltCells x ad cd).getD j undef) ⟨rfl, rfl, rfl, rfl, hx⟩).congr (fun j hj => by rw [hg j hj, if_neg (by omega), if_pos h1])
  · exact (hsz (hcells (i - 1) y h2)).congr (fun j hj => by rw [hg j hj, if_neg (by omega), if_neg (by omega)])
theorem PutFl.flo {B : Nat} {w w' : World} {l : List Flt} {x : Flt} {r : Ending} (h : PutFl (fun b => B ≤ b) w l x r w') (hB : B ≤ w.heap.size) : ∃ a c, r = .returned (.slice a (l.length + 1) c) ∧ FlO B w' (.slice a (l.length + 1) c) (putL l x) ∧ Keeps (fun _ => False) w w' := by
  obtain ⟨a, c, xs, rfl, ho, hc, hk⟩ := h
  have hge : ∀ b, (Value.slice a (l.length + 1) c).ownBlock = some b → w.heap.size ≤ b := ho.2
  refine ⟨a, c, rfl, ⟨xs, ⟨ho.1, fun _ h => h⟩, fun b hb => Nat.le_trans hB (hge b hb), fun i y hy => (hc i y hy).mono (fun b _ h => ⟨h.1, fun hb => ?_⟩)⟩, hk⟩
  have := hge b hb; omega
/-- a list of fates -/
def Ft.fl (x : Ft) : Flt := ⟨x.m, x.k, x.dl, x.a, x.fg⟩
def Fts (K : Nat → Prop) (w : World) (v : Value) (l : List Ft) : Prop := Fls K w v (l.map Ft.fl)
def Ft.nil : Ft := ⟨0, 0, 0, 0, []⟩
def fateL (l : List Ft) (c : Int) : Ft := (l.find? (fun x => x.m == c)).getD Ft.nil
theorem fate_at {l : List Ft} {c : Int} : ∀ {k : Nat} {x : Ft}, (∀ i y, i < k → l[i]? = some y → (y.m == c) = false) → l[k]? = some x → (x.m == c) = true → l.find? (fun x => x.m == c) = some x := by
  induction l with
  | nil => intro k x _ h; simp at h
  | cons z l ih =>
    intro k x h1 h2 h3
    cases k with
    | zero => simp at h2; subst h2; simp [List.find?, h3]
    | succ k =>
      have h0 := h1 0 z (by omega) rfl
      simp only [List.find?, h0]
      exact ih (k := k) (fun i y hi hy => h1 (i + 1) y (by omega) (by simpa using hy)) (by simpa using h2) h3
theorem fate_no {l : List Ft} {c : Int} (h : ∀ i y, i < l.length → l[i]? = some y → (y.m == c) = false) : l.find? (fun x => x.m == c) = none := by
  rw [List.find?_eq_none]
  intro x hx
  obtain ⟨i, hi, rfl⟩ := List.getElem_of_mem hx
  have := h i _ hi (List.getElem?_eq_getElem hi)
  simp at this ⊢; exact this
def IdxPost (l : List Ft) (c : Int) (w : World) (r : Ending) (w' : World) : Prop := ((∃ (k : Nat) (x : Ft), r = .returned (.int .i64 k) ∧ l[k]? = some x ∧ fateL l c = x) ∨ (r = .returned (.int .i64 (-1)) ∧ fateL l c = Ft.nil)) ∧ Keeps (fun _ => False) w w'
set_option maxRecDepth 100000 in set_option maxHeartbeats 1000000 in
theorem Send1_any (x : Ft) (af : Option Addr) (nf cf : Nat) (p : Nat) (cn : Int) (w : World) (hp : w.cell? ⟨p, 1, none⟩ = some (.int .i64 cn)) :
    Calls Try.prog 22 #[.agg #[.int .i64 x.m, .int .i64 x.k, .int .i64 x.dl, .int .i64 x.a, .slice af nf cf], .pointer (some ⟨p, 0, none⟩)] w fun e w' => e = .returned (.bool (x.m == cn)) ∧ Keeps (fun _ => False) w w' := by
  go_enter Try.func22, Try.ntmps22
  go_upto_region 1 with fail
  generalize hW : World.alloc w _ = W
  have BX : Hd (Blk W w.heap.size #[.int .i64 x.m, .int .i64 x.k, .int .i64 x.dl, .int .i64 x.a, .slice af nf cf] 64) := hid (by rw [← hW]; exact blk_new _ _ _)
  have KW : Hd (Keeps (fun _ => False) w W) := hid (by rw [← hW]; exact keeps_alloc _ _ _)
  clear hW
  have o0 : W.cell? ⟨w.heap.size, 0, none⟩ = some (.int .i64 x.m) := blk_cell BX.out 0
  have o1 : W.cell? ⟨p, 1, none⟩ = some (.int .i64 cn) := keep_cell KW.out (fun h => h) hp
  clear hp
  go_wp2
  go_ret
  exact ⟨rfl, KW.out⟩
set_option maxRecDepth 100000 in set_option maxHeartbeats 1000000 in
theorem IndexFunc_any (K : Nat → Prop) (v : Value) (l : List Ft) (p : Nat) (cn : Int) (w : World) (hl : Fts K w v l) (hp : w.cell? ⟨p, 1, none⟩ = some (.int .i64 cn)) (hm : l.length ≤ 1000000) :
    Calls Try.prog 21 #[v, .func (.func 22) #[] #[.pointer (some ⟨p, 0, none⟩)]] w fun e w' => IdxPost l cn w e w' := by
  obtain ⟨xs, hrow, hcells⟩ := hl
  have HCE := hid hcells
  obtain ⟨a, cap, rfl, hcap, hcm, hel⟩ := hrow.form
  have HEL := hid hel; have HP := hid hp
  unfold maxLen at hcm
  have hxl := hrow.1
  clear hcells hrow hel hp
  rw [List.length_map] at *
  generalize hll : l.length = m at *
  have HLL := hid hll; clear hll
  go_enter Try.func21, Try.ntmps21
  go_wp2_with fail
  go_loopw [8] (fun i wr => ∃ k : Nat, i = .int .i64 k ∧ k ≤ m ∧ Hd (∀ i y, i < k → l[i]? = some y → (y.m == cn) = false) ∧ Hd (Keeps (fun _ => False) w wr)) (fun i _ => m - (intOf i).toNat)
  case atStart => exact ⟨0, rfl, Nat.zero_le _, hid (fun i y hi => by omega), hid (Keeps.refl _ _)⟩
  case round =>
    obtain ⟨k, rfl, hk, HBE, HD⟩ := hrel
    by_cases hkm : k < m
    · obtain ⟨b, off, rfl, hb1, hb2, hcell⟩ := HEL.out (by omega)
      clear HEL
      obtain ⟨y, hy⟩ : ∃ y, l[k]? = some y := ⟨l[k]'(by rw [HLL.out]; exact hkm), List.getElem?_eq_getElem _⟩
      have hyf : (l.map Ft.fl)[k]? = some y.fl := by rw [List.getElem?_map, hy]; rfl
      obtain ⟨t0, t1, t2, t3, t4⟩ := HCE.out k y.fl hyf
      obtain ⟨af, cf, e4, _⟩ := t4.bytes
      have HXK := hid hy
      have key : ∀ j, j < 5 → wr.cell? ⟨b, off + (k * 5 + j), none⟩ = some (xs.getD (k * 5 + j) undef) := fun j hj => keep_cell HD.out (fun h => h) (hcell (k * 5 + j) (by omega))
      have f0 : wr.cell? ⟨b, off + k * 5, none⟩ = some (.int .i64 y.m) := (key 0 (by omega)).trans (congrArg some t0)
      have f1 : wr.cell? ⟨b, off + k * 5 + 1, none⟩ = some (.int .i64 y.k) := (key 1 (by omega)).trans (congrArg some t1)
      have f2 : wr.cell? ⟨b, off + k * 5 + 2, none⟩ = some (.int .i64 y.dl) := (key 2 (by omega)).trans (congrArg some t2)
      have f3 : wr.cell? ⟨b, off + k * 5 + 3, none⟩ = some (.int .i64 y.a) := (key 3 (by omega)).trans (congrArg some t3)
      have f4 : wr.cell? ⟨b, off + k * 5 + 4, none⟩ = some (.slice af y.fg.length cf) := (key 4 (by omega)).trans (congrArg some e4)
      have k1 : (k : Int) < m := by omega
      have k2 : (0 : Int) ≤ k := by omega
      clear t0 t1 t2 t3 t4 e4 hy hyf key hcell
      go_wp2_with fail
      refine (Send1_any y _ _ _ p cn _ (keep_cell HD.out (fun h => h) HP.out)).mono ?_
      rintro e w2 ⟨rfl, hk2⟩
      have K2 := hid (HD.out.trans hk2)
      clear hk2
      by_cases e1 : y.m = cn
      · have d1 : (y.m == cn) = true := by simp; exact e1
        have HR : Hd (IdxPost l cn w (.returned (.int .i64 k)) w2) := hid ⟨.inl ⟨k, y, rfl, HXK.out, by unfold fateL; rw [fate_at HBE.out HXK.out d1]; rfl⟩, K2.out⟩
        clear e1
        go_wp2
        go_ret
        exact HR.out
      · have d1 : (y.m == cn) = false := by simp; exact e1
        clear e1
        go_wp2
        go_roundw
        case rel =>
          refine ⟨k + 1, by go_num, by omega, hid (fun i y' hi hy' => ?_), K2⟩
          rcases Nat.lt_or_ge i k with h | h
          · exact HBE.out i y' h hy'
          · obtain rfl : i = k := by omega
            rw [HXK.out] at hy'; injection hy' with hy'; subst hy'
            exact d1
        case measure => simp [intOf]; omega
    · have hkm2 : k = m := by omega
      have HR : Hd (IdxPost l cn w (.returned (.int .i64 (-1))) wr) := hid ⟨.inr ⟨rfl, by unfold fateL; rw [fate_no (fun i y hi hy => HBE.out i y (by rw [HLL.out] at hi; omega) hy)]; rfl⟩, HD.out⟩
      have k0 : ¬ ((k : Int) < m) := by omega
      clear hkm hkm2
      go_wp2
      go_ret
      exact HR.out
end Go.Proofs.Ytjapmpolagblaaa
