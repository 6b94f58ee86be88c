/- Link: the reference's Step, Quiet, SameArrivals, Same. -/
import Derived.Test.YtjapmpolagblaaaLinkP
namespace Go.Proofs.Ytjapmpolagblaaa
open Go.RowKit
attribute [local go_sem ↓] Go.wp_at_zero Go.wp_at_succ
theorem getD_app5 {xs ns : List Value} {n i j : Nat} (hx : xs.length = n * 5) (hj : j < 5) (hi : i ≤ n) : (xs ++ ns).getD (i * 5 + j) undef = if i < n then xs.getD (i * 5 + j) undef else ns.getD j undef := by
  unfold List.getD
  split
  · rw [List.getElem?_append_left (by omega)]
  · rename_i h
    rw [List.getElem?_append_right (by omega)]
    congr 2; omega
/-- cells of flights, of arrivals -/
def FlC (K : Nat → Prop) (w : World) (xs : List Value) (l : List Flt) : Prop := xs.length = l.length * 5 ∧ ∀ i x, l[i]? = some x → FlCells K w (fun j => xs.getD (i * 5 + j) undef) x
def ArC (K : Nat → Prop) (w : World) (xs : List Value) (l : List Flt) : Prop := xs.length = l.length * 3 ∧ ∀ i x, l[i]? = some x → ArCells K w (fun j => xs.getD (i * 3 + j) undef) x
theorem FlC.keep {K S : Nat → Prop} {w w' : World} {xs : List Value} {l : List Flt} (h : FlC K w xs l) (hk : Keeps S w w') (hd : ∀ b, b < w.heap.size → K b → ¬ S b) : FlC K w' xs l := ⟨h.1, fun i x hi => (h.2 i x hi).keep hk hd⟩
theorem ArC.keep {K S : Nat → Prop} {w w' : World} {xs : List Value} {l : List Flt} (h : ArC K w xs l) (hk : Keeps S w w') (hd : ∀ b, b < w.heap.size → K b → ¬ S b) : ArC K w' xs l := ⟨h.1, fun i x hi => (h.2 i x hi).keep hk hd⟩
theorem FlC.nil (K : Nat → Prop) (w : World) : FlC K w [] [] := ⟨rfl, fun i x h => by simp at h⟩
theorem ArC.nil (K : Nat → Prop) (w : World) : ArC K w [] [] := ⟨rfl, fun i x h => by simp at h⟩
theorem FlC.app {K : Nat → Prop} {w : World} {xs ns : List Value} {l : List Flt} {x : Flt} (h : FlC K w xs l) (hx : FlCells K w (fun j => ns.getD j undef) x) (hn : ns.length = 5) : FlC K w (xs ++ ns) (l ++ [x]) := by
  refine ⟨by rw [List.length_append, List.length_append, h.1, hn]; simp; omega, fun i y hi => ?_⟩
  rcases Nat.lt_or_ge i l.length with hl | hl
  · rw [List.getElem?_append_left hl] at hi
    exact (h.2 i y hi).congr (fun j hj => by rw [getD_app5 h.1 hj (by omega), if_pos hl])
  · rw [List.getElem?_append_right hl] at hi
    have h0 : i = l.length := by have := (List.getElem?_eq_some_iff.1 hi).1; simp at this; omega
    subst h0
    simp at hi; subst hi
    exact hx.congr (fun j hj => by rw [getD_app5 h.1 hj (Nat.le_refl _), if_neg (by omega)])
theorem ArC.app {K : Nat → Prop} {w : World} {xs ns : List Value} {l : List Flt} {x : Flt} (h : ArC K w xs l) (hx : ArCells K w (fun j => ns.getD j undef) x) (hn : ns.length = 3) : ArC K w (xs ++ ns) (l ++ [x]) := by
  refine ⟨by rw [List.length_append, List.length_append, h.1, hn]; simp; omega, fun i y hi => ?_⟩
  rcases Nat.lt_or_ge i l.length with hl | hl
  · rw [List.getElem?_append_left hl] at hi
    exact (h.2 i y hi).congr (fun j hj => by rw [getD_app3 h.1 hj (by omega), if_pos hl])
  · rw [List.getElem?_append_right hl] at hi
    have h0 : i = l.length := by have := (List.getElem?_eq_some_iff.1 hi).1; simp at this; omega
    subst h0
    simp at hi; subst hi
    exact hx.congr (fun j hj => by rw [getD_app3 h.1 hj (Nat.le_refl _), if_neg (by omega)])
def leftL (l : List Flt) (tick : Int) : List Flt := l.filter (fun x => decide (tick < x.t))
def outL (l : List Flt) (tick : Int) : List Flt := l.filter (fun x => decide (x.t ≤ tick))
theorem leftL_yes {l : List Flt} {k : Nat} {x : Flt} {tick : Int} (h : l[k]? = some x) (hx : tick < x.t) : leftL (l.take (k + 1)) tick = leftL (l.take k) tick ++ [x] ∧ outL (l.take (k + 1)) tick = outL (l.take k) tick := by
  unfold leftL outL; rw [take_succ_some h, List.filter_append, List.filter_append]; simp [hx]
theorem leftL_no {l : List Flt} {k : Nat} {x : Flt} {tick : Int} (h : l[k]? = some x) (hx : x.t ≤ tick) : leftL (l.take (k + 1)) tick = leftL (l.take k) tick ∧ outL (l.take (k + 1)) tick = outL (l.take k) tick ++ [x] := by
  unfold leftL outL; rw [take_succ_some h, List.filter_append, List.filter_append]; simp [hx]
theorem leftL_len (l : List Flt) (tick : Int) (k : Nat) : (leftL (l.take k) tick).length ≤ k ∧ (outL (l.take k) tick).length ≤ k := by
  unfold leftL outL
  have h := List.length_take_le k l
  have h1 := List.length_filter_le (fun x => decide (tick < x.t)) (l.take k)
  have h2 := List.length_filter_le (fun x => decide (x.t ≤ tick)) (l.take k)
  exact ⟨by omega, by omega⟩
def RefStepPost (KA : Nat → Prop) (w : World) (l : List Flt) (cn tick : Int) (r : Ending) (w' : World) : Prop := ∃ a n c ao no co, r = .returned (.tuple #[.agg #[.slice a n c, .int .i64 cn], .slice ao no co]) ∧ n = (leftL l tick).length ∧ no = (outL l tick).length ∧
  Fls (fun b => KA b ∨ w.heap.size ≤ b) w' (.slice a n c) (leftL l tick) ∧ Ars (fun b => KA b ∨ w.heap.size ≤ b) w' (.slice ao no co) (outL l tick) ∧ Keeps (fun _ => False) w w'
def StepI (KA : Nat → Prop) (w W : World) (l : List Flt) (k : Nat) (tick : Int) (v6 v7 : Value) (wr : World) : Prop := ∃ a n c xs ao no co ys, v6 = .slice a n c ∧ v7 = .slice ao no co ∧ n = (leftL (l.take k) tick).length ∧ no = (outL (l.take k) tick).length ∧
  Own (fun b => (Value.slice a n c).ownBlock = some b) wr 59 5 (.slice a n c) n xs ∧ Own (fun b => (Value.slice ao no co).ownBlock = some b) wr 37 3 (.slice ao no co) no ys ∧
  FlC (fun b => KA b ∧ b < w.heap.size) wr xs (leftL (l.take k) tick) ∧ ArC (fun b => KA b ∧ b < w.heap.size) wr ys (outL (l.take k) tick) ∧
  (∀ b, (Value.slice a n c).ownBlock = some b → W.heap.size ≤ b ∧ (Value.slice ao no co).ownBlock ≠ some b) ∧ (∀ b, (Value.slice ao no co).ownBlock = some b → W.heap.size ≤ b) ∧ Keeps (fun _ => False) W wr
def maxT (l : List Flt) : Int := l.foldl (fun o x => max o (x.t + 1)) 0
theorem maxT_succ {l : List Flt} {k : Nat} {x : Flt} (h : l[k]? = some x) : maxT (l.take (k + 1)) = max (maxT (l.take k)) (x.t + 1) := by
  unfold maxT; rw [take_succ_some h, List.foldl_append]; rfl
/-- the same arrivals -/
def EqA (l1 l2 : List Flt) : Prop := l1.length = l2.length ∧ ∀ (i : Nat) (x y : Flt), l1[i]? = some x → l2[i]? = some y → x.f = y.f ∧ x.g = y.g ∧ x.d = y.d
theorem EqA.refl (l : List Flt) : EqA l l := ⟨rfl, fun i x y h1 h2 => by rw [h1] at h2; injection h2 with h2; subst h2; exact ⟨rfl, rfl, rfl⟩⟩
set_option maxRecDepth 100000 in set_option maxHeartbeats 1000000 in
theorem SameArr_any (K1 K2 : Nat → Prop) (v1 v2 : Value) (l1 l2 : List Flt) (w : World) (h1 : Ars K1 w v1 l1) (h2 : Ars K2 w v2 l2) (he : EqA l1 l2) (hm : l1.length ≤ 1000000) (hb : ∀ x ∈ l1, ∀ c ∈ x.d, c < 256) :
    Calls Try.prog 8 #[v1, v2] w fun e w' => e = .returned (.bool true) ∧ Drawn w w' := by
  obtain ⟨a1, c1, rfl, -⟩ := ars_form h1
  obtain ⟨a2, c2, rfl, -⟩ := ars_form h2
  obtain ⟨hl, hel⟩ := he
  rw [← hl] at h2 ⊢
  have HLN2 := hid hl
  have H1 := hid h1; have H2 := hid h2; have HEL := hid hel; have HB := hid hb
  generalize hln : l1.length = m at *
  have HLN := hid hln
  clear h1 h2 hel hb hln hl
  go_enter Try.func8, Try.ntmps8
  go_wp2_with fail
  go_loopw [5] (fun i wr => ∃ k : Nat, i = .int .i64 k ∧ k ≤ m ∧ Hd (Drawn w wr)) (fun i _ => m - (intOf i).toNat)
  case atStart => exact ⟨0, rfl, Nat.zero_le _, hid (Drawn.refl _)⟩
  case round =>
    obtain ⟨k, rfl, hk, HD⟩ := hrel
    by_cases hkm : k < m
    · obtain ⟨b1, o1, ea, hb1, hb2, hcc⟩ := ars_cells H1.out (by rw [HLN.out]; omega)
      obtain ⟨b2, o2, eb, hb3, hb4, hcd⟩ := ars_cells H2.out (by rw [← HLN2.out]; omega)
      subst ea eb
      obtain ⟨x, hx⟩ : ∃ x, l1[k]? = some x := ⟨l1[k]'(by rw [HLN.out]; exact hkm), List.getElem?_eq_getElem _⟩
      obtain ⟨y, hy⟩ : ∃ y, l2[k]? = some y := ⟨l2[k]'(by rw [← HLN2.out]; exact hkm), List.getElem?_eq_getElem _⟩
      obtain ⟨c0, c1', ad, cd, c2', hs⟩ := hcc k x hx
      obtain ⟨d0, d1, ae, ce, d2, hs2⟩ := hcd k y hy
      obtain ⟨e0, e1, e2⟩ := HEL.out k x y hx hy
      rw [← e0] at d0; rw [← e1] at d1; rw [← e2] at d2 hs2
      have HBB := hid (HB.out x (List.mem_of_getElem? hx))
      have HSB : Hd (∀ n, Calls Try.prog 19 #[.slice ad x.d.length cd, .slice ae x.d.length ce] (wr.drewN n) fun e w'' => e = .returned (.bool true) ∧ ∃ m, w'' = wr.drewN m) := hid (fun n =>
        (SameBytes_any K1 K2 _ _ x.d x.d (wr.drewN n) (hs.drawn (drawn_n HD.out n)) (hs2.drawn (drawn_n HD.out n)) HBB.out HBB.out).mono (fun e w'' h => ⟨by rw [h.1]; simp, n, h.2.symm⟩))
      have f0 := HD.out.cell c0; have f1 := HD.out.cell c1'; have f2 := HD.out.cell c2'
      have g0 := HD.out.cell d0; have g1 := HD.out.cell d1; have g2 := HD.out.cell d2
      clear hcc hcd c0 c1' c2' d0 d1 d2 hs hs2 e0 e1 e2 hx hy
      have k1 : (k : Int) < m := by omega
      have k2 : (0 : Int) ≤ k := by omega
      have q0 : (x.f != x.f) = false := by simp
      have q1 : (x.g != x.g) = false := by simp
      go_upto_region 6 with fail
      go_quiet ((go_at_call 19; exact HSB.out _))
      go_wp2
      go_roundw
      case rel => exact ⟨k + 1, by go_num, by omega, hid (by first | exact HD.out | exact drawn_n HD.out _ | exact drawn_1 HD.out)⟩
      case measure => simp [intOf]; omega
    · have hkm2 : k = m := by omega
      have k0 : ¬ ((k : Int) < m) := by omega
      clear hkm hkm2
      go_wp2
      go_ret
      exact ⟨rfl, HD.out⟩
end Go.Proofs.Ytjapmpolagblaaa
