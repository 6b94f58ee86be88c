/- Link: the reference's Step, Quiet, SameArrivals, Same. -/
import Derived.Test.YtffnocjaljgnoaaLinkP
namespace Go.Proofs.Ytffnocjaljgnoaa
open Go.RowKit
attribute [local go_sem ↓] Go.wp_at_zero Go.wp_at_succ
theorem getD_app5 {xs ns : List Value} {n i j : Nat} (hx : xs.length = n * 5) (hj : j < 5) (hi : i ≤ n) : (xs ++ ns).getD (i * 5 + j) undef = if i < n then xs.getD (i * 5 + j) undef else ns.getD j undef := by
  unfold List.getD
  split
  · rw [List.getElem?_append_left (by omega)]
  · rename_i h
    rw [List.getElem?_append_right (by omega)]
    congr 2; omega
/-- cells of flights, of arrivals -/
def FlC (K : Nat → Prop) (w : World) (xs : List Value) (l : List Flt) : Prop := xs.length = l.length * 5 ∧ ∀ i x, l[i]? = some x → FlCells K w (fun j => xs.getD (i * 5 + j) undef) x
def ArC (K : Nat → Prop) (w : World) (xs : List Value) (l : List Flt) : Prop := xs.length = l.length * 3 ∧ ∀ i x, l[i]? = some x → ArCells K w (fun j => xs.getD (i * 3 + j) undef) x
theorem FlC.keep {K S : Nat → Prop} {w w' : World} {xs : List Value} {l : List Flt} (h : FlC K w xs l) (hk : Keeps S w w') (hd : ∀ b, b < w.heap.size → K b → ¬ S b) : FlC K w' xs l := ⟨h.1, fun i x hi => (h.2 i x hi).keep hk hd⟩
theorem ArC.keep {K S : Nat → Prop} {w w' : World} {xs : List Value} {l : List Flt} (h : ArC K w xs l) (hk : Keeps S w w') (hd : ∀ b, b < w.heap.size → K b → ¬ S b) : ArC K w' xs l := ⟨h.1, fun i x hi => (h.2 i x hi).keep hk hd⟩
theorem FlC.nil (K : Nat → Prop) (w : World) : FlC K w [] [] := ⟨rfl, fun i x h => by simp at h⟩
theorem ArC.nil (K : Nat → Prop) (w : World) : ArC K w [] [] := ⟨rfl, fun i x h => by simp at h⟩
theorem FlC.app {K : Nat → Prop} {w : World} {xs ns : List Value} {l : List Flt} {x : Flt} (h : FlC K w xs l) (hx : FlCells K w (fun j => ns.getD j undef) x) (hn : ns.length = 5) : FlC K w (xs ++ ns) (l ++ [x]) := by
  refine ⟨by rw [List.length_append, List.length_append, h.1, hn]; simp; omega, fun i y hi => ?_⟩
  rcases Nat.lt_or_ge i l.length with hl | hl
  · rw [List.getElem?_append_left hl] at hi
    exact (h.2 i y hi).congr (fun j hj => by rw [getD_app5 h.1 hj (by omega), if_pos hl])
  · rw [List.getElem?_append_right hl] at hi
    have h0 : i = l.length := by have := (List.getElem?_eq_some_iff.1 hi).1; simp at this; omega
    subst h0
    simp at hi; subst hi
    exact hx.congr (fun j hj => by rw [getD_app5 h.1 hj (Nat.le_refl _), if_neg (by omega)])
theorem ArC.app {K : Nat → Prop} {w : World} {xs ns : List Value} {l : List Flt} {x : Flt} (h : ArC K w xs l) (hx : ArCells K w (fun j => ns.getD j undef) x) (hn : ns.length = 3) : ArC K w (xs ++ ns) (l ++ [x]) := by
  refine ⟨by rw [List.length_append, List.length_append, h.1, hn]; simp; omega, fun i y hi => ?_⟩
  rcases Nat.lt_or_ge i l.length with hl | hl
  · rw [List.getElem?_append_left hl] at hi
    exact (h.2 i y hi).congr (fun j hj => by rw [getD_app3 h.1 hj (by omega), if_pos hl])
  · rw [List.getElem?_append_right hl] at hi
    have h0 : i = l.length := by have := (List.getElem?_eq_some_iff.1 hi).1; simp at this; omega
    subst h0
    simp at hi; subst hi
    exact hx.congr (fun j hj => by rw [getD_app3 h.1 hj (Nat.le_refl _), if_neg (by omega)])
def leftL (l : List Flt) (tick : Int) : List Flt := l.filter (fun x => decide (tick < x.t))
def outL (l : List Flt) (tick : Int) : List Flt := l.filter (fun x => decide (x.t ≤ tick))
theorem leftL_yes {l : List Flt} {k : Nat} {x : Flt} {tick : Int} (h : l[k]? = some x) (hx : tick < x.t) : leftL (l.take (k + 1)) tick = leftL (l.take k) tick ++ [x] ∧ outL (l.take (k + 1)) tick = outL (l.take k) tick := by
  unfold leftL outL; rw [take_succ_some h, List.filter_append, List.filter_append]; simp [hx]
theorem leftL_no {l : List Flt} {k : Nat} {x : Flt} {tick : Int} (h : l[k]? = some x) (hx : x.t ≤ tick) : leftL (l.take (k + 1)) tick = leftL (l.take k) tick ∧ outL (l.take (k + 1)) tick = outL (l.take k) tick ++ [x] := by
  unfold leftL outL; rw [take_succ_some h, List.filter_append, List.filter_append]; simp [hx]
theorem leftL_len (l : List Flt) (tick : Int) (k : Nat) : (leftL (l.take k) tick).length ≤ k ∧ (outL (l.take k) tick).length ≤ k := by
  unfold leftL outL
  have h := List.length_take_le k l
  have h1 := List.length_filter_le (fun x => decide (tick < x.t)) (l.take k)
  have h2 := List.length_filter_le (fun x => decide (x.t ≤ tick)) (l.take k)
  exact ⟨by omega, by omega⟩
def RefStepPost (KA : Nat → Prop) (w : World) (l : List Flt) (cn tick : Int) (r : Ending) (w' : World) : Prop := ∃ a n c ao no co, r = .returned (.tuple #[.agg #[.slice a n c, .int .i64 cn], .slice ao no co]) ∧ n = (leftL l tick).length ∧ no = (outL l tick).length ∧
  Fls (fun b => KA b ∨ w.heap.size ≤ b) w' (.slice a n c) (leftL l tick) ∧ Ars (fun b => KA b ∨ w.heap.size ≤ b) w' (.slice ao no co) (outL l tick) ∧ Keeps (fun _ => False) w w'
def StepI (KA : Nat → Prop) (w W : World) (l : List Flt) (k : Nat) (tick : Int) (v6 v7 : Value) (wr : World) : Prop := ∃ a n c xs ao no co ys, v6 = .slice a n c ∧ v7 = .slice ao no co ∧ n = (leftL (l.take k) tick).length ∧ no = (outL (l.take k) tick).length ∧
  Own (fun b => (Value.slice a n c).ownBlock = some b) wr 73 5 (.slice a n c) n xs ∧ Own (fun b => (Value.slice ao no co).ownBlock = some b) wr 55 3 (.slice ao no co) no ys ∧
  FlC (fun b => KA b ∧ b < w.heap.size) wr xs (leftL (l.take k) tick) ∧ ArC (fun b => KA b ∧ b < w.heap.size) wr ys (outL (l.take k) tick) ∧
  (∀ b, (Value.slice a n c).ownBlock = some b → W.heap.size ≤ b ∧ (Value.slice ao no co).ownBlock ≠ some b) ∧ (∀ b, (Value.slice ao no co).ownBlock = some b → W.heap.size ≤ b) ∧ Keeps (fun _ => False) W wr
set_option maxRecDepth 100000 in set_option maxHeartbeats 1000000 in
theorem refStep_any (KA : Nat → Prop) (vf : Value) (l : List Flt) (cn tick : Int) (w : World) (hl : Fls (fun b => KA b ∧ b < w.heap.size) w vf l) (hlen : l.length ≤ 1000000) :
    Calls Try.prog 19 #[.agg #[vf, .int .i64 cn], .int .i64 tick] w fun e w' => RefStepPost KA w l cn tick e w' := by
  obtain ⟨i0, z, hi, hz0, hz1, hz2, hz3⟩ := ar_parts
  obtain ⟨i5, z5, hi5, hy0, hy1, hy2, hy3⟩ := fl_parts
  obtain ⟨af, cf, rfl, -⟩ := fls_form hl
  have HL := hid hl
  clear hl
  generalize hln : l.length = m at *
  have HLN := hid hln; clear hln
  go_enter Try.func19, Try.ntmps19
  go_upto_region 1 with fail
  generalize hW : World.alloc (World.alloc w _) _ = W1
  have KS : Hd (Keeps (fun _ => False) w W1) := hid (by rw [← hW]; exact (Keeps.alloc (Keeps.alloc (Keeps.refl (fun _ => False) w) _) _))
  have HL' : Hd (Fls (fun b => KA b ∧ b < w.heap.size) W1 (.slice af m cf) l) := hid (HL.out.keep KS.out (fun _ _ _ h => h))
  have BP : Hd (Blk W1 w.heap.size #[.slice af m cf, .int .i64 cn] 28) := hid (by rw [← hW]; exact (blk_alloc (blk_new _ _ _) _))
  have BR : Hd (Blk W1 (w.heap.size + 1) #[.slice none 0 0, .int .i64 0] 28) := hid (by rw [← hW]; exact (blk_new' _ _ _ _ (by simp)))
  clear HL
  have HL := HL'
  clear HL'
  have HK : Hd (Keeps (fun _ => False) w W1) := hid KS.out
  have z_W1 : w.heap.size + 2 ≤ W1.heap.size := by rw [← hW]; simp
  clear hW KS
  go_wp2_with fail
  go_loopw [6, 7, 8] (fun v6 v7 i wr => ∃ k : Nat, i = .int .i64 k ∧ k ≤ m ∧ Hd (StepI KA w W1 l k tick v6 v7 wr)) (fun _ _ i _ => m - (intOf i).toNat)
  case atStart => exact ⟨0, rfl, Nat.zero_le _, hid ⟨none, 0, 0, [], none, 0, 0, [], rfl, rfl, rfl, rfl, Own.nil _ _ _ _, Own.nil _ _ _ _, FlC.nil _ _, ArC.nil _ _, fun b h => by simp [Value.ownBlock] at h, fun b h => by simp [Value.ownBlock] at h, Keeps.refl _ _⟩⟩
  case round =>
    obtain ⟨k, rfl, hk, HI⟩ := hrel
    obtain ⟨a, n, c, xs, ao, no, co, ys, rfl, rfl, hn, hno, ho, hy, hc, hyc, hd6, hd7, hkr⟩ := HI.out
    have HO := hid ho; have HY := hid hy; have HC := hid hc; have HYC := hid hyc; have HD6 := hid hd6; have HD7 := hid hd7; have HN := hid hn; have HNO := hid hno
    have hk := hkr
    have hnk : n ≤ k ∧ no ≤ k := by rw [hn, hno]; exact leftL_len l tick k
    have KR := hid hkr
    clear ho hy hc hyc hd6 hd7 hn hno HI hkr
    have hkm0 : k ≤ m := by assumption
    have HL' : Hd (Fls (fun b => KA b ∧ b < w.heap.size) wr (.slice af m cf) l) := hid (HL.out.keep hk (fun _ _ _ h => h))
    have BP' : Hd (Blk wr w.heap.size #[.slice af m cf, .int .i64 cn] 28) := hid (blk_keep BP.out hk (fun h => h))
    have BR' : Hd (Blk wr (w.heap.size + 1) #[.slice none 0 0, .int .i64 0] 28) := hid (blk_keep BR.out hk (fun h => h))
    clear HL BP BR
    have HL := HL'
    clear HL'
    have BP := BP'
    clear BP'
    have BR := BR'
    clear BR'
    have HK' : Hd (Keeps (fun _ => False) w wr) := hid (HK.out.trans hk)
    clear HK
    have HK := HK'
    clear HK'
    have z_wr := hk.size
    clear hk
    by_cases hkm : k < m
    · obtain ⟨bb, o, ea, hb1, hb2, hcc⟩ := fls_cells HL.out (by rw [HLN.out]; omega)
      subst ea
      obtain ⟨x, hx⟩ : ∃ x, l[k]? = some x := ⟨l[k]'(by rw [HLN.out]; exact hkm), List.getElem?_eq_getElem _⟩
      obtain ⟨c0, c1, c2, c3, ad, cd, c4, hs⟩ := hcc k x hx
      have HX := hid hx; have HS := hid hs; clear hx hcc hs
      have k1 : (k : Int) < m := by omega
      have k2 : (0 : Int) ≤ k := by omega
      have o_BP_0 : wr.cell? ⟨w.heap.size, 0, none⟩ = some (.slice (some ⟨bb, o, none⟩) m cf) := blk_cell BP.out 0
      have o_BP_1 : wr.cell? ⟨w.heap.size, 1, none⟩ = some (.int .i64 cn) := blk_cell BP.out 1
      by_cases hxt : x.t ≤ tick
      · have d1 : decide (x.t ≤ tick) = true := by simp; exact hxt
        have HE := hid (leftL_no HX.out hxt)
        clear hxt
        go_wp2_with (at_builtin; refine wpList_append_row rfl (.tmp 24) (.tmp 31) 41 rfl 55 i0 z 3 40 Try.underlying41 hi hz0 hz1 hz2 hz3 (by decide) _ (fun _ => True) (.slice ao no co) _ no ys rfl (HY.out.alloc _) 1 [.int .i64 x.f, .int .i64 x.g, .slice ad x.d.length cd] rfl (by exact lit_row _ _ _ 1 3 rfl (by decide)) (by intro u hu; simp at hu; rcases hu with rfl | rfl | rfl <;> rfl) (by simp [maxLen]; omega) (by omega) ?_)
        intro a2 c2 w2 hown hk2; try intro _
        have hown0 : ∀ b, (Value.slice a2 (no + 1) c2).ownBlock = some b → (Value.slice ao no co).ownBlock = some b ∨ wr.heap.size ≤ b := fun b hb => by rcases hown.2 b hb with h | h <;> (try simp at h) <;> first | exact .inl h | exact .inr (by omega)
        have HO2 := hid (own_none hown)
        have K2 : Hd (Keeps (fun b => (Value.slice ao no co).ownBlock = some b) wr w2) := hid ((keeps_alloc _ wr _).trans hk2)
        have zr := KR.out.size
        have z2 := K2.out.size
        have HI : Hd (StepI KA w W1 l (k + 1) tick (.slice a n c) (.slice a2 (no + 1) c2) w2) := hid (by
          refine ⟨a, n, c, xs, a2, no + 1, c2, _, rfl, rfl, by rw [HE.out.1]; exact HN.out, by rw [HE.out.2, List.length_append, ← HNO.out]; rfl, HO.out.keep K2.out (fun b _ h1 h2 => (HD6.out b h1).2 h2), HO2.out, ?_, ?_, fun b hb => ⟨(HD6.out b hb).1, fun h => ?_⟩, fun b hb => ?_, KR.out.trans' K2.out (fun i hi h => by have := HD7.out i h; omega)⟩
          · rw [HE.out.1]; exact HC.out.keep K2.out (fun b _ h1 h2 => by have := HD7.out b h2; omega)
          · rw [HE.out.2]; exact (HYC.out.keep K2.out (fun b _ h1 h2 => by have := HD7.out b h2; omega)).app ⟨rfl, rfl, HS.out.keep K2.out (fun b _ h1 h2 => by have := HD7.out b h2; omega)⟩ rfl
          · rcases hown0 b h with h | h
            · exact (HD6.out b hb).2 h
            · have := (HO.out.1.lt b hb).2; omega
          · rcases hown0 b hb with h | h
            · exact HD7.out b h
            · omega)
        clear hown hown0 hk2 HO2 K2 HO HY HC HYC HD6 HD7 HN HNO
        go_wp2
        go_roundw
        case rel => exact ⟨k + 1, by go_num, by omega, HI⟩
        case measure => simp [intOf]; omega
      · have d1 : decide (x.t ≤ tick) = false := by simp; omega
        have HE := hid (leftL_yes HX.out (by omega : tick < x.t))
        clear hxt
        go_wp2_with (at_builtin; refine wpList_append_row rfl (.tmp 33) (.tmp 39) 26 rfl 73 i5 z5 5 56 Try.underlying26 hi5 hy0 hy1 hy2 hy3 (by decide) _ (fun _ => True) (.slice a n c) _ n xs rfl (HO.out.alloc _) 1 [.int .i64 x.t, .int .i64 x.n, .int .i64 x.f, .int .i64 x.g, .slice ad x.d.length cd] rfl (by exact lit_row _ _ _ 1 5 rfl (by decide)) (by intro u hu; simp at hu; rcases hu with rfl | rfl | rfl | rfl | rfl <;> rfl) (by simp [maxLen]; omega) (by omega) ?_)
        intro a2 c2 w2 hown hk2; try intro _
        have hown0 : ∀ b, (Value.slice a2 (n + 1) c2).ownBlock = some b → (Value.slice a n c).ownBlock = some b ∨ wr.heap.size ≤ b := fun b hb => by rcases hown.2 b hb with h | h <;> (try simp at h) <;> first | exact .inl h | exact .inr (by omega)
        have HO2 := hid (own_none hown)
        have K2 : Hd (Keeps (fun b => (Value.slice a n c).ownBlock = some b) wr w2) := hid ((keeps_alloc _ wr _).trans hk2)
        have zr := KR.out.size
        have z2 := K2.out.size
        have HI : Hd (StepI KA w W1 l (k + 1) tick (.slice a2 (n + 1) c2) (.slice ao no co) w2) := hid (by
          refine ⟨a2, n + 1, c2, _, ao, no, co, ys, rfl, rfl, by rw [HE.out.1, List.length_append, ← HN.out]; rfl, by rw [HE.out.2]; exact HNO.out, HO2.out, HY.out.keep K2.out (fun b _ h1 h2 => (HD6.out b h2).2 h1), ?_, ?_, fun b hb => ⟨?_, fun h => ?_⟩, HD7.out, KR.out.trans' K2.out (fun i hi h => by have := (HD6.out i h).1; omega)⟩
          · rw [HE.out.1]; exact (HC.out.keep K2.out (fun b _ h1 h2 => by have := (HD6.out b h2).1; omega)).app ⟨rfl, rfl, rfl, rfl, HS.out.keep K2.out (fun b _ h1 h2 => by have := (HD6.out b h2).1; omega)⟩ rfl
          · rw [HE.out.2]; exact HYC.out.keep K2.out (fun b _ h1 h2 => by have := (HD6.out b h2).1; omega)
          · rcases hown0 b hb with h | h
            · exact (HD6.out b h).1
            · omega
          · rcases hown0 b hb with h2 | h2
            · exact (HD6.out b h2).2 h
            · have := (HY.out.1.lt b h).2; omega)
        clear hown hown0 hk2 HO2 K2 HO HY HC HYC HD6 HD7 HN HNO
        go_wp2
        go_roundw
        case rel => exact ⟨k + 1, by go_num, by omega, HI⟩
        case measure => simp [intOf]; omega
    · have hkm2 : k = m := by omega
      have HTK : Hd (l.take k = l) := hid (List.take_of_length_le (by rw [HLN.out]; omega))
      have k0 : ¬ ((k : Int) < m) := by omega
      clear hkm hkm2
      have o_BP_0 : wr.cell? ⟨w.heap.size, 0, none⟩ = some (.slice af m cf) := blk_cell BP.out 0
      have f_BP_0 : wr.frozen? ⟨w.heap.size, 0, none⟩ = false := blk_free BP.out 0
      go_upto_region 10 with fail
      clear o_BP_0 f_BP_0
      generalize hW : World.setCell wr _ _ = W2
      have KS : Hd (Keeps (fun b => b = w.heap.size) wr W2) := hid (by rw [← hW]; exact (Keeps.setCell (S := fun b => b = w.heap.size) (Keeps.refl (fun b => b = w.heap.size) wr) (.inl rfl) _))
      have HL' : Hd (Fls (fun b => KA b ∧ b < w.heap.size) W2 (.slice af m cf) l) := hid (HL.out.keep KS.out (fun b _ h1 h2 => by first | omega | (have := (HD6.out b h1).1; omega) | (have := HD7.out b h1; omega)))
      have BP' : Hd (Blk W2 w.heap.size #[.slice a n c, .int .i64 cn] 28) := hid (by rw [← hW]; exact (blk_set BP.out 0 _))
      have BR' : Hd (Blk W2 (w.heap.size + 1) #[.slice none 0 0, .int .i64 0] 28) := hid (by rw [← hW]; exact (blk_other BR.out (by omega) _ _))
      have HO' : Hd (Own (fun b => (Value.slice a n c).ownBlock = some b) W2 73 5 (.slice a n c) n xs) := hid (HO.out.keep KS.out (fun b _ h1 h2 => by first | omega | (have := (HD6.out b h1).1; omega) | (have := HD7.out b h1; omega)))
      have HY' : Hd (Own (fun b => (Value.slice ao no co).ownBlock = some b) W2 55 3 (.slice ao no co) no ys) := hid (HY.out.keep KS.out (fun b _ h1 h2 => by first | omega | (have := (HD6.out b h1).1; omega) | (have := HD7.out b h1; omega)))
      have HC' : Hd (FlC (fun b => KA b ∧ b < w.heap.size) W2 xs (leftL (l.take k) tick)) := hid (HC.out.keep KS.out (fun b _ h1 h2 => by first | omega | (have := (HD6.out b h1).1; omega) | (have := HD7.out b h1; omega)))
      have HYC' : Hd (ArC (fun b => KA b ∧ b < w.heap.size) W2 ys (outL (l.take k) tick)) := hid (HYC.out.keep KS.out (fun b _ h1 h2 => by first | omega | (have := (HD6.out b h1).1; omega) | (have := HD7.out b h1; omega)))
      clear HL BP BR HO HY HC HYC
      have HL := HL'
      clear HL'
      have BP := BP'
      clear BP'
      have BR := BR'
      clear BR'
      have HO := HO'
      clear HO'
      have HY := HY'
      clear HY'
      have HC := HC'
      clear HC'
      have HYC := HYC'
      clear HYC'
      have HK' : Hd (Keeps (fun _ => False) w W2) := hid (HK.out.trans' KS.out (fun i hi h => by omega))
      clear HK
      have HK := HK'
      clear HK'
      have z_W2 : wr.heap.size + 0 ≤ W2.heap.size := by rw [← hW]; simp
      clear hW KS
      have o_BP_0 : W2.cell? ⟨w.heap.size, 0, none⟩ = some (.slice a n c) := blk_cell BP.out 0
      have o_BP_1 : W2.cell? ⟨w.heap.size, 1, none⟩ = some (.int .i64 cn) := blk_cell BP.out 1
      have o_BR_0 : W2.cell? ⟨w.heap.size + 1, 0, none⟩ = some (.slice none 0 0) := blk_cell BR.out 0
      have o_BR_1 : W2.cell? ⟨w.heap.size + 1, 1, none⟩ = some (.int .i64 0) := blk_cell BR.out 1
      have f_BP_0 : W2.frozen? ⟨w.heap.size, 0, none⟩ = false := blk_free BP.out 0
      have f_BP_1 : W2.frozen? ⟨w.heap.size, 1, none⟩ = false := blk_free BP.out 1
      have f_BR_0 : W2.frozen? ⟨w.heap.size + 1, 0, none⟩ = false := blk_free BR.out 0
      have f_BR_1 : W2.frozen? ⟨w.heap.size + 1, 1, none⟩ = false := blk_free BR.out 1
      obtain ⟨KF, F2⟩ := fin2 HK.out (b := w.heap.size + 1) (by omega) BR.out (.slice a n c) (.int .i64 cn)
      have KS2 : Hd (Keeps (fun b => b = w.heap.size + 1) W2 _) := hid (keq (keq (Keeps.refl _ W2) 0 (.slice a n c)) 1 (.int .i64 cn))
      have r0 := blk_cell F2 0
      have r1 := blk_cell F2 1
      have HKF := hid KF
      clear KF F2
      go_wp2
      refine bodyPost_ret (v := .tuple #[.agg #[.slice a n c, .int .i64 cn], .slice ao no co]) (by simp [results, Try.results19, go_sem, r0, r1]) rfl ?_
      rw [HTK.out] at HN HNO HC HYC
      refine ⟨a, n, c, ao, no, co, rfl, HN.out, HNO.out, ⟨xs, ?_, fun i x hx => ((HC.out.2 i x hx).keep KS2.out (fun b _ h1 h2 => by omega)).mono (fun _ _ h => .inl h.1)⟩, ⟨ys, ?_, fun i x hx => ((HYC.out.2 i x hx).keep KS2.out (fun b _ h1 h2 => by omega)).mono (fun _ _ h => .inl h.1)⟩, HKF.out⟩
      · rw [← HN.out]; exact (HO.out.row.keep KS2.out (fun b _ h1 h2 => by have := (HD6.out b h1).1; omega)).mono (fun b _ h => .inr (by have := (HD6.out b h).1; omega))
      · rw [← HNO.out]; exact (HY.out.row.keep KS2.out (fun b _ h1 h2 => by have := HD7.out b h1; omega)).mono (fun b _ h => .inr (by have := HD7.out b h; omega))
def maxT (l : List Flt) : Int := l.foldl (fun o x => max o (x.t + 1)) 0
theorem maxT_succ {l : List Flt} {k : Nat} {x : Flt} (h : l[k]? = some x) : maxT (l.take (k + 1)) = max (maxT (l.take k)) (x.t + 1) := by
  unfold maxT; rw [take_succ_some h, List.foldl_append]; rfl
set_option maxRecDepth 100000 in set_option maxHeartbeats 1000000 in
theorem refQuiet_any (K : Nat → Prop) (vf : Value) (l : List Flt) (cn : Int) (w : World) (hl : Fls K w vf l) (hlen : l.length ≤ 1000000) (ht : ∀ x ∈ l, 0 ≤ x.t ∧ x.t ≤ 1000000000000000) :
    Calls Try.prog 16 #[.agg #[vf, .int .i64 cn]] w fun e w' => e = .returned (.int .i64 (refQuiet l)) ∧ Keeps (fun _ => False) w w' := by
  obtain ⟨af, cf, rfl, -⟩ := fls_form hl
  have HL := hid hl; have HT := hid ht
  clear hl ht
  have HQ : Hd (refQuiet l = maxT l) := hid rfl
  rw [HQ.out]
  generalize hln : l.length = m at *
  have HLN := hid hln; clear hln
  go_enter Try.func16, Try.ntmps16
  go_upto_region 1 with fail
  generalize hW : World.alloc w _ = W
  have BP : Hd (Blk W w.heap.size #[.slice af m cf, .int .i64 cn] 28) := hid (by rw [← hW]; exact blk_new _ _ _)
  have KW : Hd (Keeps (fun _ => False) w W) := hid (by rw [← hW]; exact keeps_alloc _ _ _)
  clear hW
  go_wp2_with fail
  go_loopw [3, 4] (fun o i wr => ∃ k : Nat, i = .int .i64 k ∧ k ≤ m ∧ o = .int .i64 (maxT (l.take k)) ∧ wr = W) (fun _ i _ => m - (intOf i).toNat)
  case atStart => exact ⟨0, rfl, Nat.zero_le _, rfl, rfl⟩
  case round =>
    obtain ⟨k, rfl, hk, rfl, rfl⟩ := hrel
    have o0 : wr.cell? ⟨w.heap.size, 0, none⟩ = some (.slice af m cf) := blk_cell BP.out 0
    by_cases hkm : k < m
    · obtain ⟨bb, o, ea, hb1, hb2, hcc⟩ := fls_cells HL.out (by rw [HLN.out]; omega)
      subst ea
      obtain ⟨x, hx⟩ : ∃ x, l[k]? = some x := ⟨l[k]'(by rw [HLN.out]; exact hkm), List.getElem?_eq_getElem _⟩
      obtain ⟨c0, -⟩ := hcc k x hx
      have f0 := keep_cell KW.out (fun h => h) c0
      obtain ⟨t0, t1⟩ := HT.out x (List.mem_of_getElem? hx)
      have HM := hid (maxT_succ hx)
      clear hcc c0 hx
      generalize maxT (l.take k) = M at *
      have k1 : (k : Int) < m := by omega
      have k2 : (0 : Int) ≤ k := by omega
      rcases Int.lt_or_le M (x.t + 1) with h | h
      all_goals
        go_wp2
        go_roundw
        case rel => exact ⟨k + 1, by go_num, by omega, by rw [HM.out]; exact congrArg (Value.int .i64) (by omega), trivial⟩
        case measure => simp [intOf]; omega
    · have hkm2 : k = m := by omega
      have HTK : Hd (l.take k = l) := hid (List.take_of_length_le (by rw [HLN.out]; omega))
      have k0 : ¬ ((k : Int) < m) := by omega
      clear hkm hkm2
      go_wp2
      go_ret
      exact ⟨ret_int (by rw [HTK.out]), KW.out⟩
/-- the same arrivals -/
def EqA (l1 l2 : List Flt) : Prop := l1.length = l2.length ∧ ∀ (i : Nat) (x y : Flt), l1[i]? = some x → l2[i]? = some y → x.f = y.f ∧ x.g = y.g ∧ x.d = y.d
theorem EqA.refl (l : List Flt) : EqA l l := ⟨rfl, fun i x y h1 h2 => by rw [h1] at h2; injection h2 with h2; subst h2; exact ⟨rfl, rfl, rfl⟩⟩
set_option maxRecDepth 100000 in set_option maxHeartbeats 1000000 in
theorem SameArr_any (K1 K2 : Nat → Prop) (v1 v2 : Value) (l1 l2 : List Flt) (w : World) (h1 : Ars K1 w v1 l1) (h2 : Ars K2 w v2 l2) (he : EqA l1 l2) (hm : l1.length ≤ 1000000) (hb : ∀ x ∈ l1, ∀ c ∈ x.d, c < 256) :
    Calls Try.prog 21 #[v1, v2] w fun e w' => e = .returned (.bool true) ∧ Drawn w w' := by
  obtain ⟨a1, c1, rfl, -⟩ := ars_form h1
  obtain ⟨a2, c2, rfl, -⟩ := ars_form h2
  obtain ⟨hl, hel⟩ := he
  rw [← hl] at h2 ⊢
  have HLN2 := hid hl
  have H1 := hid h1; have H2 := hid h2; have HEL := hid hel; have HB := hid hb
  generalize hln : l1.length = m at *
  have HLN := hid hln
  clear h1 h2 hel hb hln hl
  go_enter Try.func21, Try.ntmps21
  go_wp2_with fail
  go_loopw [5] (fun i wr => ∃ k : Nat, i = .int .i64 k ∧ k ≤ m ∧ Hd (Drawn w wr)) (fun i _ => m - (intOf i).toNat)
  case atStart => exact ⟨0, rfl, Nat.zero_le _, hid (Drawn.refl _)⟩
  case round =>
    obtain ⟨k, rfl, hk, HD⟩ := hrel
    by_cases hkm : k < m
    · obtain ⟨b1, o1, ea, hb1, hb2, hcc⟩ := ars_cells H1.out (by rw [HLN.out]; omega)
      obtain ⟨b2, o2, eb, hb3, hb4, hcd⟩ := ars_cells H2.out (by rw [← HLN2.out]; omega)
      subst ea eb
      obtain ⟨x, hx⟩ : ∃ x, l1[k]? = some x := ⟨l1[k]'(by rw [HLN.out]; exact hkm), List.getElem?_eq_getElem _⟩
      obtain ⟨y, hy⟩ : ∃ y, l2[k]? = some y := ⟨l2[k]'(by rw [← HLN2.out]; exact hkm), List.getElem?_eq_getElem _⟩
      obtain ⟨c0, c1', ad, cd, c2', hs⟩ := hcc k x hx
      obtain ⟨d0, d1, ae, ce, d2, hs2⟩ := hcd k y hy
      obtain ⟨e0, e1, e2⟩ := HEL.out k x y hx hy
      rw [← e0] at d0; rw [← e1] at d1; rw [← e2] at d2 hs2
      have HBB := hid (HB.out x (List.mem_of_getElem? hx))
      have HSB : Hd (∀ n, Calls Try.prog 23 #[.slice ad x.d.length cd, .slice ae x.d.length ce] (wr.drewN n) fun e w'' => e = .returned (.bool true) ∧ ∃ m, w'' = wr.drewN m) := hid (fun n =>
        (SameBytes_any K1 K2 _ _ x.d x.d (wr.drewN n) (hs.drawn (drawn_n HD.out n)) (hs2.drawn (drawn_n HD.out n)) HBB.out HBB.out).mono (fun e w'' h => ⟨by rw [h.1]; simp, n, h.2.symm⟩))
      have f0 := HD.out.cell c0; have f1 := HD.out.cell c1'; have f2 := HD.out.cell c2'
      have g0 := HD.out.cell d0; have g1 := HD.out.cell d1; have g2 := HD.out.cell d2
      clear hcc hcd c0 c1' c2' d0 d1 d2 hs hs2 e0 e1 e2 hx hy
      have k1 : (k : Int) < m := by omega
      have k2 : (0 : Int) ≤ k := by omega
      have q0 : (x.f != x.f) = false := by simp
      have q1 : (x.g != x.g) = false := by simp
      go_upto_region 6 with fail
      go_quiet ((go_at_call 23; exact HSB.out _))
      go_wp2
      go_roundw
      case rel => exact ⟨k + 1, by go_num, by omega, hid (by first | exact HD.out | exact drawn_n HD.out _ | exact drawn_1 HD.out)⟩
      case measure => simp [intOf]; omega
    · have hkm2 : k = m := by omega
      have k0 : ¬ ((k : Int) < m) := by omega
      clear hkm hkm2
      go_wp2
      go_ret
      exact ⟨rfl, HD.out⟩
end Go.Proofs.Ytffnocjaljgnoaa
