/- link.Step, link.Quiet, the table of one contact. -/
import Derived.Test.YtjapmpolagblaaaLinkI
namespace Go.Proofs.Ytjapmpolagblaaa
open Go.RowKit
attribute [local go_sem ↓] Go.wp_at_zero Go.wp_at_succ
theorem infoAr : (Try.prog.info? 37).map (fun i => (i.size, i.bytes)) = some (3, 40) := by kernel_rfl
theorem infoArz : ((Try.prog.info? 37).bind (·.zero)).map (fun z => z.cells) = some #[.int .i64 0, .int .i64 0, .slice none 0 0] := by kernel_rfl
theorem ar_parts : ∃ i z, Try.prog.info? 37 = some i ∧ i.zero = some z ∧ i.size = 3 ∧ i.bytes = 40 ∧ z.cells.size = 3 := by
  obtain ⟨i, hi, h1⟩ := Option.map_eq_some_iff.1 infoAr
  have h2 := infoArz
  rw [hi] at h2
  obtain ⟨z, hz, h3⟩ := Option.map_eq_some_iff.1 h2
  simp only [Prod.mk.injEq] at h1
  exact ⟨i, z, hi, hz, h1.1, h1.2, by rw [h3]; rfl⟩
/-- a list of arrivals: of each flight its from, to, data -/
def ArCells (K : Nat → Prop) (w : World) (c : Nat → Value) (x : Flt) : Prop := c 0 = .int .i64 x.f ∧ c 1 = .int .i64 x.g ∧ Sl K w (c 2) (u8s x.d)
def Ars (K : Nat → Prop) (w : World) (v : Value) (l : List Flt) : Prop := ∃ xs, Row K w 3 v l.length xs ∧ ∀ i x, l[i]? = some x → ArCells K w (fun j => xs.getD (i * 3 + j) undef) x
theorem ArCells.keep {K S : Nat → Prop} {w w' : World} {c : Nat → Value} {x : Flt} (h : ArCells K w c x) (hk : Keeps S w w') (hd : ∀ b, b < w.heap.size → K b → ¬ S b) : ArCells K w' c x := ⟨h.1, h.2.1, h.2.2.keep hk hd⟩
theorem ArCells.mono {K K' : Nat → Prop} {w : World} {c : Nat → Value} {x : Flt} (h : ArCells K w c x) (hd : ∀ b, b < w.heap.size → K b → K' b) : ArCells K' w c x := ⟨h.1, h.2.1, h.2.2.mono hd⟩
theorem ArCells.congr {K : Nat → Prop} {w : World} {c c' : Nat → Value} {x : Flt} (h : ArCells K w c x) (e : ∀ j, j < 3 → c' j = c j) : ArCells K w c' x := by
  obtain ⟨h0, h1, h2⟩ := h
  refine ⟨(e 0 (by omega)).trans h0, (e 1 (by omega)).trans h1, ?_⟩
  rw [e 2 (by omega)]; exact h2
theorem Ars.keep {K S : Nat → Prop} {w w' : World} {v : Value} {l : List Flt} (h : Ars K w v l) (hk : Keeps S w w') (hd : ∀ b, b < w.heap.size → K b → ¬ S b) : Ars K w' v l := by
  obtain ⟨xs, h1, h2⟩ := h
  exact ⟨xs, h1.keep hk hd, fun i x hi => (h2 i x hi).keep hk hd⟩
theorem Ars.mono {K K' : Nat → Prop} {w : World} {v : Value} {l : List Flt} (h : Ars K w v l) (hd : ∀ b, b < w.heap.size → K b → K' b) : Ars K' w v l := by
  obtain ⟨xs, h1, h2⟩ := h
  exact ⟨xs, h1.mono hd, fun i x hi => (h2 i x hi).mono hd⟩
def stepK (l : List Flt) (tick : Int) : Nat := (l.takeWhile (fun x => decide (x.t ≤ tick))).length
theorem stepK_at {tick : Int} : ∀ {l : List Flt} {k : Nat}, k ≤ l.length → (∀ i y, i < k → l[i]? = some y → decide (y.t ≤ tick) = true) → (∀ y, l[k]? = some y → decide (y.t ≤ tick) = false) → stepK l tick = k := by
  intro l
  induction l with
  | nil => intro k hk _ _; simp at hk; subst hk; rfl
  | cons z l ih =>
    intro k hk h1 h2
    unfold stepK at *
    cases k with
    | zero => have := h2 z rfl; simp [List.takeWhile, this]
    | succ k =>
      have h0 := h1 0 z (by omega) rfl
      have := ih (k := k) (by simpa using hk) (fun i y hi hy => h1 (i + 1) y (by omega) (by simpa using hy)) (fun y hy => h2 y (by simpa using hy))
      simp only [List.takeWhile, h0, List.length_cons, this]
theorem stepK_le (l : List Flt) (tick : Int) : stepK l tick ≤ l.length := by
  unfold stepK; exact List.Sublist.length_le (List.takeWhile_sublist _)
def StepPost (w : World) (l : List Flt) (cn tick : Int) (r : Ending) (w' : World) : Prop := ∃ a n c ao no co, r = .returned (.tuple #[.agg #[.slice a n c, .int .i64 cn], .slice ao no co]) ∧ n = (l.drop (stepK l tick)).length ∧ no = (l.take (stepK l tick)).length ∧
  Fls (fun b => w.heap.size ≤ b) w' (.slice a n c) (l.drop (stepK l tick)) ∧ Ars (fun b => w.heap.size ≤ b) w' (.slice ao no co) (l.take (stepK l tick)) ∧ Keeps (fun _ => False) w w'
theorem fls_drop {K : Nat → Prop} {w : World} {xs : List Value} {l : List Flt} {k : Nat} (h : ∀ i x, l[i]? = some x → FlCells K w (fun j => xs.getD (i * 5 + j) undef) x) : ∀ i x, (l.drop k)[i]? = some x → FlCells K w (fun j => (xs.drop (k * 5)).getD (i * 5 + j) undef) x := by
  intro i x hx
  rw [List.getElem?_drop] at hx
  refine (h _ _ hx).congr (fun j hj => ?_)
  unfold List.getD
  rw [List.getElem?_drop]
  congr 2; omega
theorem getD_app3 {xs ns : List Value} {n i j : Nat} (hx : xs.length = n * 3) (hj : j < 3) (hi : i ≤ n) : (xs ++ ns).getD (i * 3 + j) undef = if i < n then xs.getD (i * 3 + j) undef else ns.getD j undef := by
  unfold List.getD
  split
  · rw [List.getElem?_append_left (by omega)]
  · rename_i h
    rw [List.getElem?_append_right (by omega)]
    congr 2; omega
theorem lit_row (w : World) (cs : Array Value) (t : TypeId) (n size : Nat) (h : cs.size = n * size) (hm : n ≤ maxLen) : Row (fun _ => True) (w.alloc (.cells cs t)) size (.slice (some ⟨w.heap.size, 0, none⟩) n n) n cs.toList :=
  Own.row (S := fun _ => True) ⟨World.ownsRow_lit (base := 0) (e := t) w cs n (Nat.zero_le _) hm h, fun _ _ => trivial⟩
set_option maxRecDepth 100000 in set_option maxHeartbeats 1000000 in
theorem Step_any (vf : Value) (l : List Flt) (cn tick : Int) (w : World) (hl : Fls (fun b => b < w.heap.size) w vf l) (hlen : l.length ≤ 1000000) (hld : ∀ x ∈ l, x.d.length ≤ 140737488351232) :
    Calls Try.prog 7 #[.agg #[vf, .int .i64 cn], .int .i64 tick] w fun e w' => StepPost w l cn tick e w' := by
  have HL := hid hl; have HLD := hid hld
  obtain ⟨i0, z, hi, hz0, hz1, hz2, hz3⟩ := ar_parts
  obtain ⟨i5, z5, hi5, hy0, hy1, hy2, hy3⟩ := fl_parts
  obtain ⟨xs0, hrow, -⟩ := hl
  obtain ⟨af, cf, rfl, -⟩ := hrow.form
  clear hrow hld
  generalize hln : l.length = m at *
  have HLN := hid hln; clear hln
  go_enter Try.func7, Try.ntmps7
  go_upto_region 1 with fail
  generalize hW : World.alloc (World.alloc w _) _ = W
  have BP : Hd (Blk W w.heap.size #[.slice af m cf, .int .i64 cn] 28) := hid (by rw [← hW]; exact blk_alloc (blk_new _ _ _) _)
  have BR : Hd (Blk W (w.heap.size + 1) #[.slice none 0 0, .int .i64 0] 28) := hid (by rw [← hW]; exact blk_new' _ _ _ _ (by simp))
  have KW : Hd (Keeps (fun _ => False) w W) := hid (by rw [← hW]; repeat (first | (with_reducible assumption) | (with_reducible exact Keeps.refl _ _) | (with_reducible apply Keeps.drewN) | (with_reducible apply Keeps.drew) | (with_reducible apply Keeps.alloc) | refine Keeps.setCell ?_ (by first | (simp; done) | (simp; omega)) _))
  have zW : w.heap.size + 1 < W.heap.size := blk_lt BR.out
  clear hW
  have o0 : W.cell? ⟨w.heap.size, 0, none⟩ = some (.slice af m cf) := blk_cell BP.out 0
  go_wp2_with fail
  refine (own_any _ l W ((HL.out.keep KW.out (fun _ _ _ h => h)).mono (fun b h1 _ => h1)) (by rw [HLN.out]; omega) HLD.out).mono ?_
  rintro e w1 ⟨a1, c1, rfl, ho, hk⟩
  rw [HLN.out] at ho
  rw [HLN.out]
  obtain ⟨xs, hown, hge, hcl⟩ := ho
  rw [HLN.out] at hown
  have HO := hid hown; have HGE := hid hge; have HCL := hid hcl; have K1 := hid hk
  have z1 := hk.size
  clear hown hge hcl hk o0
  have BP1 := hid (blk_keep BP.out K1.out (fun h => h)); have BR1 := hid (blk_keep BR.out K1.out (fun h => h))
  have KA1 := hid (KW.out.trans K1.out)
  clear BP BR
  have hxl : Hd (xs.length = m * 5) := hid HO.out.1.1
  go_wp2_with fail
  go_loopw [7, 8] (fun i o wr => ∃ (k : Nat) (a : Option Addr) (c : Nat) (ys : List Value), i = .int .i64 k ∧ o = .slice a k c ∧ k ≤ m ∧ Hd (∀ i y, i < k → l[i]? = some y → decide (y.t ≤ tick) = true) ∧ Hd (Own (fun b => w1.heap.size ≤ b) wr 37 3 (.slice a k c) k ys) ∧
    Hd (∀ i y, i < k → l[i]? = some y → ArCells (fun b => W.heap.size ≤ b ∧ b < w1.heap.size) wr (fun j => ys.getD (i * 3 + j) undef) y) ∧ Hd (Keeps (fun _ => False) w1 wr)) (fun i _ _ => m - (intOf i).toNat)
  case atStart => exact ⟨0, none, 0, [], rfl, rfl, Nat.zero_le _, hid (fun i y hi => by omega), hid (Own.nil _ _ _ _), hid (fun i y hi => by omega), hid (Keeps.refl _ _)⟩
  case round =>
    obtain ⟨k, a, c, ys, rfl, rfl, hk, HBE, HY, HYC, KR⟩ := hrel
    have zr := KR.out.size
    have HOR := hid (HO.out.keep KR.out (fun _ _ _ h => h))
    by_cases hkm : k < m
    · obtain ⟨y, hy⟩ : ∃ y, l[k]? = some y := ⟨l[k]'(by rw [HLN.out]; exact hkm), List.getElem?_eq_getElem _⟩
      obtain ⟨ga, hga⟩ := row_none HOR.out.row (by omega)
      subst hga
      obtain ⟨g, hg⟩ : ∃ g, ga = ⟨g, 0, none⟩ := by
        rcases HOR.out.1.2 with ⟨h, _⟩ | ⟨g, cap, cur, h, _⟩
        · injection h with h; cases h
        · injection h with h; injection h with h; exact ⟨g, h⟩
      subst hg
      obtain ⟨t0, t1, t2, t3, t4⟩ := HCL.out k y hy
      obtain ⟨ab, cb, e4, _⟩ := t4.bytes
      have t4' : Sl (fun b => W.heap.size ≤ b ∧ b < w1.heap.size) w1 (.slice ab y.d.length cb) (u8s y.d) := by
        have e4' : xs.getD (k * 5 + 4) undef = .slice ab y.d.length cb := e4
        have := t4; simp only [e4'] at this
        exact this.mono (fun b h1 h2 => ⟨h2.1, h1⟩)
      have HT4 := hid (t4'.keep KR.out (fun _ _ _ h => h))
      have HXK := hid hy
      have key : ∀ j, j < 5 → wr.cell? ⟨g, k * 5 + j, none⟩ = some (xs.getD (k * 5 + j) undef) := fun j hj => by
        rw [HOR.out.1.cellAt (k * 5 + j) (by omega), List.getD, List.getElem?_eq_getElem (by rw [hxl.out]; omega)]; rfl
      have f0 : wr.cell? ⟨g, k * 5, none⟩ = some (.int .i64 y.t) := (key 0 (by omega)).trans (congrArg some t0)
      have f2 : wr.cell? ⟨g, k * 5 + 2, none⟩ = some (.int .i64 y.f) := (key 2 (by omega)).trans (congrArg some t2)
      have f3 : wr.cell? ⟨g, k * 5 + 3, none⟩ = some (.int .i64 y.g) := (key 3 (by omega)).trans (congrArg some t3)
      have f4 : wr.cell? ⟨g, k * 5 + 4, none⟩ = some (.slice ab y.d.length cb) := (key 4 (by omega)).trans (congrArg some e4)
      have k1 : (k : Int) < m := by omega
      have k2 : (0 : Int) ≤ k := by omega
      clear t0 t1 t2 t3 t4 t4' e4 hy key
      by_cases hyt : y.t ≤ tick
      · have d1 : decide (y.t ≤ tick) = true := by simp; exact hyt
        clear hyt
        go_wp2_with (at_builtin; refine wpList_append_row rfl (.tmp 25) (.tmp 31) 29 rfl 37 i0 z 3 40 Try.underlying29 hi hz0 hz1 hz2 hz3 (by decide) _ (fun _ => True) (.slice a k c) _ k ys rfl (HY.out.alloc _) 1 [.int .i64 y.f, .int .i64 y.g, .slice ab y.d.length cb] rfl (by exact lit_row _ _ _ 1 3 rfl (by decide)) (by intro u hu; simp at hu; rcases hu with rfl | rfl | rfl <;> rfl) (by simp [maxLen]; omega) (by omega) ?_)
        intro a2 c2 w2 hown hk2; try intro _
        have HY2 := hid (hown.mono (K' := fun b => w1.heap.size ≤ b) (fun b _ h => by rcases h with h | h <;> (try simp at h) <;> omega))
        have K2 : Hd (Keeps (fun b => w1.heap.size ≤ b) wr w2) := hid ((keeps_alloc _ wr _).trans hk2)
        have KR2 : Hd (Keeps (fun _ => False) w1 w2) := hid (KR.out.trans' K2.out (fun i hi h => by omega))
        have hyl : ys.length = k * 3 := HY.out.1.1
        have HYC2 : Hd (∀ i y', i < k + 1 → l[i]? = some y' → ArCells (fun b => W.heap.size ≤ b ∧ b < w1.heap.size) w2 (fun j => (ys ++ [Value.int .i64 y.f, .int .i64 y.g, .slice ab y.d.length cb]).getD (i * 3 + j) undef) y') := hid (fun i y' hi hy' => by
          have hg : ∀ j, j < 3 → _ := fun j hj => getD_app3 (xs := ys) (ns := [Value.int .i64 y.f, .int .i64 y.g, .slice ab y.d.length cb]) (n := k) (i := i) (j := j) hyl hj (by omega)
          rcases Nat.lt_or_ge i k with h | h
          · exact ((HYC.out i y' h hy').keep K2.out (fun b _ h1 h2 => by omega)).congr (fun j hj => by rw [hg j hj, if_pos h])
          · obtain rfl : i = k := by omega
            rw [HXK.out] at hy'; injection hy' with hy'; subst hy'
            exact (show ArCells _ w2 (fun j => [Value.int .i64 y.f, .int .i64 y.g, .slice ab y.d.length cb].getD j undef) y from ⟨rfl, rfl, HT4.out.keep K2.out (fun b _ h1 h2 => by omega)⟩).congr (fun j hj => by rw [hg j hj, if_neg (by omega)]))
        have HBE2 : Hd (∀ i y', i < k + 1 → l[i]? = some y' → decide (y'.t ≤ tick) = true) := hid (fun i y' hi hy' => by
          rcases Nat.lt_or_ge i k with h | h
          · exact HBE.out i y' h hy'
          · obtain rfl : i = k := by omega
            rw [HXK.out] at hy'; injection hy' with hy'; subst hy'
            exact d1)
        clear hown hk2 HBE HYC HY
        go_wp2
        go_roundw
        case rel => exact ⟨k + 1, a2, c2, _, by go_num, rfl, by omega, HBE2, HY2, HYC2, KR2⟩
        case measure => simp [intOf]; omega
      · have d1 : decide (y.t ≤ tick) = false := by simp; omega
        have HPK : Hd (stepK l tick = k) := hid (stepK_at (by rw [HLN.out]; omega) HBE.out (fun y' hy' => by rw [HXK.out] at hy'; injection hy' with hy'; subst hy'; exact d1))
        clear hyt HBE
        obtain ⟨a2, c2, hcut, hr2⟩ := run_cut_from (P := Try.prog) (t := 26) Try.underlying26 hi5 hy1 HOR.out.row (lo := (k : Int)) k rfl hk
        have HR2 := hid hr2
        have BPR := hid (blk_keep BP1.out KR.out (fun h => h)); have BRR := hid (blk_keep BR1.out KR.out (fun h => h))
        have KAR := hid (KA1.out.trans KR.out)
        have p0 : wr.cell? ⟨w.heap.size, 0, none⟩ = some (.slice af m cf) := blk_cell BPR.out 0
        have p1 : wr.frozen? ⟨w.heap.size, 0, none⟩ = false := blk_free BPR.out 0
        clear hr2
        go_upto_region 8 with fail
        generalize hW9 : World.setCell wr _ _ = W9
        have BP9 : Hd (Blk W9 w.heap.size #[.slice a2 (m - k) c2, .int .i64 cn] 28) := hid (by rw [← hW9]; exact blk_set BPR.out 0 _)
        have BR9 : Hd (Blk W9 (w.heap.size + 1) #[.slice none 0 0, .int .i64 0] 28) := hid (by rw [← hW9]; exact blk_other BRR.out (by omega) _ _)
        have KA9 : Hd (Keeps (fun _ => False) w W9) := hid (by rw [← hW9]; exact KAR.out.setCell (.inr (Nat.le_refl _)) _)
        have KS9 : Hd (Keeps (fun b => b = w.heap.size) wr W9) := hid (by rw [← hW9]; exact keeps_set _ _ _ _ rfl)
        clear hW9 p0 p1 hcut
        obtain ⟨KF, F2⟩ := fin2 KA9.out (b := w.heap.size + 1) (by omega) BR9.out (.slice a2 (m - k) c2) (.int .i64 cn)
        have KS2 : Hd (Keeps (fun b => b = w.heap.size ∨ b = w.heap.size + 1) wr ((W9.setCell ⟨w.heap.size + 1, 0, none⟩ (.slice a2 (m - k) c2)).setCell ⟨w.heap.size + 1, 1, none⟩ (.int .i64 cn))) := hid (((KS9.out.mono (fun _ _ h => .inl h)).setCell (.inl (.inr rfl)) _).setCell (.inl (.inr rfl)) _)
        have r0 := blk_cell F2 0
        have r1 := blk_cell F2 1
        have HKF := hid KF
        have o0 : W9.cell? ⟨w.heap.size, 0, none⟩ = some (.slice a2 (m - k) c2) := blk_cell BP9.out 0
        have o1 : W9.cell? ⟨w.heap.size, 1, none⟩ = some (.int .i64 cn) := blk_cell BP9.out 1
        have o2 : W9.frozen? ⟨w.heap.size + 1, 0, none⟩ = false := blk_free BR9.out 0
        have o3 : W9.frozen? ⟨w.heap.size + 1, 1, none⟩ = false := blk_free BR9.out 1
        have o4 : W9.cell? ⟨w.heap.size + 1, 0, none⟩ = some (.slice none 0 0) := blk_cell BR9.out 0
        have o5 : W9.cell? ⟨w.heap.size + 1, 1, none⟩ = some (.int .i64 0) := blk_cell BR9.out 1
        clear KF F2
        go_wp2
        refine bodyPost_ret (v := .tuple #[.agg #[.slice a2 (m - k) c2, .int .i64 cn], .slice a k c]) (by simp [results, Try.results7, go_sem, r0, r1]) rfl ?_
        refine ⟨a2, m - k, c2, a, k, c, rfl, by rw [HPK.out, List.length_drop, HLN.out], by rw [HPK.out, List.length_take, HLN.out]; omega, ?_, ?_, HKF.out⟩
        · rw [HPK.out]
          have e2 : (xs.drop (k * 5)).take ((m - k) * 5) = xs.drop (k * 5) := List.take_of_length_le (by rw [List.length_drop, hxl.out]; omega)
          have h1 := HR2.out
          rw [e2] at h1
          refine ⟨xs.drop (k * 5), ?_, fls_drop (fun i x hx => ((((HCL.out i x hx).mono (K' := fun b => W.heap.size ≤ b) (fun b _ h => h.1)).keep KR.out (fun _ _ _ h => h)).keep KS2.out (fun b _ h1 h2 => by omega)).mono (fun b _ h => by omega))⟩
          rw [List.length_drop, HLN.out]
          exact ((h1.mono (K' := fun b => W.heap.size ≤ b) (fun b _ h => HGE.out b h)).keep KS2.out (fun b _ h1 h2 => by omega)).mono (fun b _ h => by omega)
        · rw [HPK.out]
          have e3 : (l.take k).length = k := by rw [List.length_take, HLN.out]; omega
          refine ⟨ys, ?_, fun i x hx => ?_⟩
          · rw [e3]
            exact (HY.out.row.keep KS2.out (fun b _ h1 h2 => by omega)).mono (fun b _ h => by omega)
          · have hik : i < k := by have := (List.getElem?_eq_some_iff.1 hx).1; omega
            rw [List.getElem?_take, if_pos hik] at hx
            exact ((HYC.out i x hik hx).keep KS2.out (fun b _ h1 h2 => by omega)).mono (fun b _ h => by omega)
    · have hkm2 : k = m := by omega
      have HPK : Hd (stepK l tick = k) := hid (stepK_at (by rw [HLN.out]; omega) HBE.out (fun y' hy' => by rw [List.getElem?_eq_none (by rw [HLN.out]; omega)] at hy'; cases hy'))
      have k0 : ¬ ((k : Int) < m) := by omega
      clear hkm hkm2 HBE
      obtain ⟨a2, c2, hcut, hr2⟩ := run_cut_from (P := Try.prog) (t := 26) Try.underlying26 hi5 hy1 HOR.out.row (lo := (k : Int)) k rfl hk
      have HR2 := hid hr2
      have BPR := hid (blk_keep BP1.out KR.out (fun h => h)); have BRR := hid (blk_keep BR1.out KR.out (fun h => h))
      have KAR := hid (KA1.out.trans KR.out)
      have p0 : wr.cell? ⟨w.heap.size, 0, none⟩ = some (.slice af m cf) := blk_cell BPR.out 0
      have p1 : wr.frozen? ⟨w.heap.size, 0, none⟩ = false := blk_free BPR.out 0
      clear hr2
      go_upto_region 8 with fail
      generalize hW9 : World.setCell wr _ _ = W9
      have BP9 : Hd (Blk W9 w.heap.size #[.slice a2 (m - k) c2, .int .i64 cn] 28) := hid (by rw [← hW9]; exact blk_set BPR.out 0 _)
      have BR9 : Hd (Blk W9 (w.heap.size + 1) #[.slice none 0 0, .int .i64 0] 28) := hid (by rw [← hW9]; exact blk_other BRR.out (by omega) _ _)
      have KA9 : Hd (Keeps (fun _ => False) w W9) := hid (by rw [← hW9]; exact KAR.out.setCell (.inr (Nat.le_refl _)) _)
      have KS9 : Hd (Keeps (fun b => b = w.heap.size) wr W9) := hid (by rw [← hW9]; exact keeps_set _ _ _ _ rfl)
      clear hW9 p0 p1 hcut
      obtain ⟨KF, F2⟩ := fin2 KA9.out (b := w.heap.size + 1) (by omega) BR9.out (.slice a2 (m - k) c2) (.int .i64 cn)
      have KS2 : Hd (Keeps (fun b => b = w.heap.size ∨ b = w.heap.size + 1) wr ((W9.setCell ⟨w.heap.size + 1, 0, none⟩ (.slice a2 (m - k) c2)).setCell ⟨w.heap.size + 1, 1, none⟩ (.int .i64 cn))) := hid (((KS9.out.mono (fun _ _ h => .inl h)).setCell (.inl (.inr rfl)) _).setCell (.inl (.inr rfl)) _)
      have r0 := blk_cell F2 0
      have r1 := blk_cell F2 1
      have HKF := hid KF
      have o0 : W9.cell? ⟨w.heap.size, 0, none⟩ = some (.slice a2 (m - k) c2) := blk_cell BP9.out 0
      have o1 : W9.cell? ⟨w.heap.size, 1, none⟩ = some (.int .i64 cn) := blk_cell BP9.out 1
      have o2 : W9.frozen? ⟨w.heap.size + 1, 0, none⟩ = false := blk_free BR9.out 0
      have o3 : W9.frozen? ⟨w.heap.size + 1, 1, none⟩ = false := blk_free BR9.out 1
      have o4 : W9.cell? ⟨w.heap.size + 1, 0, none⟩ = some (.slice none 0 0) := blk_cell BR9.out 0
      have o5 : W9.cell? ⟨w.heap.size + 1, 1, none⟩ = some (.int .i64 0) := blk_cell BR9.out 1
      clear KF F2
      go_wp2
      refine bodyPost_ret (v := .tuple #[.agg #[.slice a2 (m - k) c2, .int .i64 cn], .slice a k c]) (by simp [results, Try.results7, go_sem, r0, r1]) rfl ?_
      refine ⟨a2, m - k, c2, a, k, c, rfl, by rw [HPK.out, List.length_drop, HLN.out], by rw [HPK.out, List.length_take, HLN.out]; omega, ?_, ?_, HKF.out⟩
      · rw [HPK.out]
        have e2 : (xs.drop (k * 5)).take ((m - k) * 5) = xs.drop (k * 5) := List.take_of_length_le (by rw [List.length_drop, hxl.out]; omega)
        have h1 := HR2.out
        rw [e2] at h1
        refine ⟨xs.drop (k * 5), ?_, fls_drop (fun i x hx => ((((HCL.out i x hx).mono (K' := fun b => W.heap.size ≤ b) (fun b _ h => h.1)).keep KR.out (fun _ _ _ h => h)).keep KS2.out (fun b _ h1 h2 => by omega)).mono (fun b _ h => by omega))⟩
        rw [List.length_drop, HLN.out]
        exact ((h1.mono (K' := fun b => W.heap.size ≤ b) (fun b _ h => HGE.out b h)).keep KS2.out (fun b _ h1 h2 => by omega)).mono (fun b _ h => by omega)
      · rw [HPK.out]
        have e3 : (l.take k).length = k := by rw [List.length_take, HLN.out]; omega
        refine ⟨ys, ?_, fun i x hx => ?_⟩
        · rw [e3]
          exact (HY.out.row.keep KS2.out (fun b _ h1 h2 => by omega)).mono (fun b _ h => by omega)
        · have hik : i < k := by have := (List.getElem?_eq_some_iff.1 hx).1; omega
          rw [List.getElem?_take, if_pos hik] at hx
          exact ((HYC.out i x hik hx).keep KS2.out (fun b _ h1 h2 => by omega)).mono (fun b _ h => by omega)
end Go.Proofs.Ytjapmpolagblaaa
