/- File: Pick, the segments that numbers choose. -/
import Derived.Test.YtgeicbjlichdgaaDoorFileO
namespace Go.Proofs.YtgeicbjlichdgaaDoor
open Go.RowKit
attribute [local go_sem ↓] Go.wp_at_zero Go.wp_at_succ
def I64s (l : List Int) : Prop := ∀ n ∈ l, -9223372036854775808 ≤ n ∧ n ≤ 9223372036854775807
def pickL (l : List Int) (i : Nat) (m : Int) : Int := if i < l.length then around (l.getD i 0) m else 0
set_option maxRecDepth 100000 in set_option maxHeartbeats 1000000 in
theorem Pick_any (K : Nat → Prop) (v : Value) (l : List Int) (i : Nat) (m : Int) (w : World) (hv : Sl K w v (i64s l)) (hl : I64s l) (hi : i < 1000) (h1 : 1 ≤ m) (h2 : m ≤ 1000000000000000) :
    Calls Tryd.prog 23 #[v, .int .i64 i, .int .i64 m] w fun e w' => e = .returned (.int .i64 (pickL l i m)) ∧ w = w' := by
  obtain ⟨a, c, rfl, q1, q2, hel⟩ := hv.ints
  unfold maxLen at q2
  have HL := hid hl
  unfold pickL
  obtain ⟨n, hn⟩ : ∃ n, l.length = n := ⟨_, rfl⟩
  rw [hn] at q1 hel ⊢
  have HN := hid hn
  have i0 : decide ((i : Int) < 0) = false := decide_eq_false (by omega)
  clear hv hl hn
  go_enter Tryd.func23, Tryd.ntmps23
  by_cases h : i < n
  · obtain ⟨b, o, rfl, _, _, hc⟩ := hel (by omega)
    have g0 := hc i h
    have i1 : decide ((n : Int) ≤ (i : Int)) = false := by simp; omega
    have k1 : (i : Int) < n := by omega
    have k2 : (0 : Int) ≤ i := by omega
    obtain ⟨d, hd⟩ : ∃ d, l.getD i 0 = d := ⟨_, rfl⟩
    rw [hd] at g0 ⊢
    have HD : Hd (-9223372036854775808 ≤ d ∧ d ≤ 9223372036854775807) := hid (HL.out d (by rw [← hd, List.getD, List.getElem?_eq_getElem (by rw [HN.out]; exact h)]; exact List.getElem_mem _))
    have HR : Hd ((if i < n then around d m else 0) = around d m) := hid (if_pos h)
    clear hc hel hd h
    go_wp2_with fail
    refine (Around_any d m _ HD.out.1 HD.out.2 h1 h2).mono ?_
    rintro e wx ⟨rfl, rfl⟩
    go_wp2
    go_ret
    exact ⟨rfl, rfl⟩
  · have i1 : decide ((n : Int) ≤ (i : Int)) = true := by simp; omega
    have i1n : decide (n ≤ i) = true := decide_eq_true (by omega)
    have i1m : n ≤ i := by omega
    have HR : Hd ((if i < n then around (l.getD i 0) m else 0) = 0) := hid (if_neg h)
    clear hel h
    go_wp2
    go_ret
    exact ⟨rfl, rfl⟩
theorem pick_b (l : List Int) (i : Nat) {m : Int} (h : 1 ≤ m) : 0 ≤ pickL l i m ∧ pickL l i m < m := by
  unfold pickL; split
  · exact around_b _ h
  · omega
/-- the size of segments that a number stands for -/
def sizeL (n : Int) : Int := 1 + around n 256
theorem sizeL_b (n : Int) : 1 ≤ sizeL n ∧ sizeL n ≤ 256 := by have := around_b n (show (1 : Int) ≤ 256 by omega); unfold sizeL; omega
def cutsL (id : Int) (b : List Nat) (sizes : List Int) : List Seg := sizes.flatMap (fun s => cutL id b (sizeL s))
def allL (id : Int) (b : List Nat) (sizes : List Int) : List Seg := cutL id b (sizeL (pickL sizes 0 256)) ++ cutsL id b ((sizes.take 4).drop 1)
def noSeg : Seg := ⟨0, 0, 0, 0, []⟩
def atL (l : List Seg) (o : Int) : Seg := l.getD (around o l.length).toNat noSeg
def segsL (id : Int) (b : List Nat) (sizes order : List Int) : List Seg := (order.take 60).map (atL (allL id b sizes))
theorem cutL_len (id : Int) (b : List Nat) (z : Int) : (cutL id b z).length ≤ b.length + 1 := by
  unfold cutL answerL
  split
  · simp
  · split
    · simp
    · split
      · simp
      · rw [List.flatMap_cons, List.flatMap_nil, List.append_nil]; have := gapR_len id b z (0, (b.length : Int)); omega
theorem cuts_len (id : Int) (b : List Nat) (l : List Int) : (cutsL id b l).length ≤ l.length * (b.length + 1) := flat_len_le _ _ (fun s => cutL_len id b (sizeL s)) l
theorem all_of {id : Int} {b : List Nat} {sizes : List Int} : ∀ x ∈ allL id b sizes, OfF id b x := by
  intro x hx
  unfold allL at hx
  rcases List.mem_append.1 hx with hx | hx
  · exact cut_of x hx
  · obtain ⟨s, _, hs⟩ := List.mem_flatMap.1 hx
    exact cut_of x hs
theorem all_ne {id : Int} {b : List Nat} {sizes : List Int} (hb : b.length ≤ 65536) : allL id b sizes ≠ [] := fun h => cut_ne (id := id) (b := b) (sizeL_b (pickL sizes 0 256)) hb (List.append_eq_nil_iff.1 h).1
theorem atL_mem {l : List Seg} (h : l ≠ []) (o : Int) : atL l o ∈ l := by
  have hp := List.length_pos_iff.2 h
  have := around_b o (show (1 : Int) ≤ (l.length : Int) by omega)
  unfold atL
  rw [List.getD, List.getElem?_eq_getElem (by omega)]
  exact List.getElem_mem _
theorem segs_of {id : Int} {b : List Nat} {sizes order : List Int} (hb : b.length ≤ 65536) : ∀ x ∈ segsL id b sizes order, OfF id b x := by
  intro x hx
  obtain ⟨o, _, rfl⟩ := List.mem_map.1 hx
  exact all_of _ (atL_mem (all_ne hb) o)
theorem segs_len (id : Int) (b : List Nat) (sizes order : List Int) : (segsL id b sizes order).length ≤ 60 := by unfold segsL; rw [List.length_map, List.length_take]; omega
/-- a segment of a list of segments of one's own, read -/
theorem sgp_cells {KD : Nat → Prop} {B : Nat} {w : World} {a : Option Addr} {n c : Nat} {l : List Seg} (h : SgP KD B w (.slice a n c) l) {k : Nat} {x : Seg} (hk : l[k]? = some x) :
    ∃ b o, a = some ⟨b, o, none⟩ ∧ b < w.heap.size ∧ w.cell? ⟨b, o + k * 5, none⟩ = some (.int .i64 x.f) ∧ w.cell? ⟨b, o + k * 5 + 1, none⟩ = some (.int .i64 x.o) ∧ w.cell? ⟨b, o + k * 5 + 2, none⟩ = some (.int .i64 x.t) ∧ w.cell? ⟨b, o + k * 5 + 3, none⟩ = some (.int .u32 (x.s : Int)) ∧
      ∃ ad cd, w.cell? ⟨b, o + k * 5 + 4, none⟩ = some (.slice ad x.d.length cd) ∧ Sl (fun i => KD i ∧ i ≠ b) w (.slice ad x.d.length cd) (u8s x.d) := by
  obtain ⟨xs, ho, hge, hc⟩ := h
  have hkl : k < l.length := (List.getElem?_eq_some_iff.1 hk).1
  rcases ho.1.2 with ⟨h1, h2⟩ | ⟨g, cap, cur, h1, _⟩
  · injection h1 with _ h1; have := ho.row.form; obtain ⟨_, _, e, _⟩ := this; injection e with _ e; omega
  · injection h1 with h1
    subst h1
    obtain ⟨b, o, ea, hb1, hb2, hall⟩ := sgs_cells (K := fun i => i = g ∨ (KD i ∧ i ≠ g)) ⟨xs, ho.row.mono (fun b _ hb => .inl (by injection hb with hb; exact hb.symm)), hc.mono (fun b _ hb => .inr ⟨hb.1, fun e => hb.2 (by rw [e]; rfl)⟩)⟩ (by omega)
    injection ea with ea
    injection ea with e1 e2
    subst e1 e2
    obtain ⟨c0, c1, c2, c3, ad, cd, c4, h5⟩ := hall k x hk
    refine ⟨_, _, rfl, hb2, c0, c1, c2, c3, ad, cd, c4, ?_⟩
    obtain ⟨t0, t1, t2, t3, t4⟩ := hc.2 k x hk
    obtain ⟨ad', cd', e4, _⟩ := t4.bytes
    have e4' : xs.getD (k * 5 + 4) undef = .slice ad' x.d.length cd' := e4
    have h4 : Sl (fun i => KD i ∧ (Value.slice (some ⟨g, 0, none⟩) n c).ownBlock ≠ some i) w (.slice ad' x.d.length cd') (u8s x.d) := by have h := t4; simp only [e4'] at h; exact h
    obtain ⟨a', c', e, _, _, hel⟩ := ho.row.form
    injection e with e1 e2 e3
    obtain ⟨b9, o9, ea9, _, _, hcell⟩ := hel (by omega)
    rw [← e1] at ea9
    injection ea9 with ea9
    injection ea9 with e9 e10
    subst e9 e10
    have hq := hcell (k * 5 + 4) (by omega)
    rw [e4'] at hq
    rw [Nat.add_assoc, hq] at c4
    injection c4 with c4
    injection c4 with c41 c42 c43
    subst c41 c43
    exact h4.mono (fun b _ hb => ⟨hb.1, fun e => hb.2 (by rw [e]; rfl)⟩)
set_option maxRecDepth 100000 in set_option maxHeartbeats 1000000 in
theorem segments_any (v vs vo : Value) (b : List Nat) (sizes order : List Int) (id : Int) (w : World) (hN : Cr.Nib w) (hv : Sl (fun k => k < w.heap.size) w v (u8s b)) (hb : ∀ c ∈ b, c < 256) (hm : b.length ≤ 1000)
    (hs : Sl (fun k => k < w.heap.size) w vs (i64s sizes)) (ho : Sl (fun k => k < w.heap.size) w vo (i64s order)) (hsr : I64s sizes) (hor : I64s order) :
    Calls Tryd.prog 22 #[.int .i64 id, v, vs, vo] w fun e w' => SgRet (fun k => w.heap.size ≤ k) w (segsL id b sizes order) e w' := by
  obtain ⟨i0, zz, hi, hz0, hz1, hz2, hz3⟩ := sg_parts
  have HN := hid hN; have HB := hid hb; have HV := hid hv; have HS := hid hs; have HO := hid ho; have HSR := hid hsr; have HOR := hid hor
  have HSZ : Hd (NibF w) := hid hN
  obtain ⟨av, cv, rfl, _⟩ := hv.bytes
  obtain ⟨asz, cs, rfl, s1, s2, sel⟩ := hs.ints
  obtain ⟨ao, co, rfl, t1, t2, tel⟩ := ho.ints
  unfold maxLen at s2 t2
  have SEL := hid sel; have TEL := hid tel
  clear hN hb hv hs ho hsr hor sel tel
  obtain ⟨A, hA⟩ : ∃ A, segsL id b sizes order = A := ⟨_, rfl⟩
  rw [hA]
  have HA := hid hA; clear hA
  obtain ⟨ns, hns⟩ : ∃ n, sizes.length = n := ⟨_, rfl⟩
  obtain ⟨no, hno⟩ : ∃ n, order.length = n := ⟨_, rfl⟩
  rw [hns] at s1 SEL ⊢
  rw [hno] at t1 TEL ⊢
  have HNS := hid hns; have HNO := hid hno; clear hns hno
  obtain ⟨pb0, pb1⟩ := pick_b sizes 0 (show (1 : Int) ≤ 256 by omega)
  go_enter Tryd.func22, Tryd.ntmps22
  go_wp2_with fail
  refine (Pick_any _ _ sizes 0 256 _ (by first | (rw [← HNS.out]; exact HS.out) | (have h := HS.out; rw [HNS.out] at h; exact h) | exact HS.out) HSR.out (by omega) (by omega) (by omega)).mono ?_
  rintro e wx ⟨rfl, rfl⟩
  obtain ⟨z0, hz0'⟩ : ∃ z, pickL sizes 0 256 = z := ⟨_, rfl⟩
  rw [hz0'] at pb0 pb1 ⊢
  have HZ0 := hid hz0'; clear hz0'
  go_wp2_with fail
  refine (size_any z0 _ (by omega) (by omega)).mono ?_
  rintro e wx ⟨rfl, rfl⟩
  have HSL : Hd (1 + around z0 256 = sizeL z0) := hid rfl
  obtain ⟨zb1, zb2⟩ := sizeL_b z0
  rw [HSL.out]
  generalize hzz : sizeL z0 = z at *
  have HZZ := hid hzz; clear hzz
  go_wp2_with fail
  refine (Cut_any _ b id z _ HN.out HV.out HB.out (by omega)).mono ?_
  rintro e w1 ⟨a1, n1, c1, rfl, rfl, hp1, hk1⟩
  have HP1 := hid hp1; have K1 := hid hk1; have z1 := hk1.size
  clear hp1 hk1 HSL
  obtain ⟨C0, hC0⟩ : ∃ C, cutL id b z = C := ⟨_, rfl⟩
  have hc0l := cutL_len id b z
  rw [hC0] at HP1 hc0l ⊢
  have HC0 := hid hC0; clear hC0
  go_wp2_with fail
  go_loopw [9, 11, 12, 13] (fun lv iv x12 x13 wr => ∃ (acc : List Seg) (k : Nat) (a : Option Addr) (c : Nat), lv = .slice a acc.length c ∧ iv = .int .i64 k ∧ 1 ≤ k ∧ k ≤ 4 ∧ (k ≤ ns ∨ k = 1) ∧ Hd (acc = C0 ++ cutsL id b ((sizes.take k).drop 1)) ∧ Hd (SgP (fun k => w.heap.size ≤ k) w.heap.size wr (.slice a acc.length c) acc) ∧ Hd (Keeps (fun _ => False) w wr)) (fun _ x _ _ _ => 4 - (intOf x).toNat)
  case atStart => exact ⟨C0, 1, a1, c1, rfl, rfl, Nat.le_refl _, by omega, .inr rfl, hid (by rw [show (sizes.take 1).drop 1 = [] by rcases sizes with _ | ⟨s, l⟩ <;> simp]; simp [cutsL]), HP1, K1⟩
  case round =>
    obtain ⟨acc, k, a, c, rfl, rfl, hk1, hk4, hks, HE, HP, HK⟩ := hrel
    have hal : acc.length ≤ 5 * (b.length + 1) := by
      have h := cuts_len id b ((sizes.take k).drop 1)
      have h2 : ((sizes.take k).drop 1).length ≤ 3 := by rw [List.length_drop, List.length_take]; omega
      have h3 : ((sizes.take k).drop 1).length * (b.length + 1) ≤ 3 * (b.length + 1) := Nat.mul_le_mul_right _ h2
      rw [HE.out, List.length_append]; omega
    have hal2 : acc.length ≤ 6000 := by omega
    by_cases hkn : k < ns
    · by_cases hk5 : k < 4
      · have d1 : decide ((k : Int) < (ns : Int)) = true := by simp; omega
        have d2 : decide ((k : Int) < 4) = true := by simp; omega
        have kk1 : (k : Int) < ns := by omega
        have kk2 : (0 : Int) ≤ k := by omega
        obtain ⟨bs, os_, rfl, _, hbs, hcs⟩ := SEL.out (by omega)
        have g0 := keep_cell HK.out (fun h => h) (hcs k (by omega))
        obtain ⟨d, hd⟩ : ∃ d, sizes.getD k 0 = d := ⟨_, rfl⟩
        rw [hd] at g0
        have hdg : sizes[k]? = some d := by rw [← hd, List.getD, List.getElem?_eq_getElem (by rw [HNS.out]; exact hkn)]; rfl
        have HD : Hd (-9223372036854775808 ≤ d ∧ d ≤ 9223372036854775807) := hid (HSR.out d (List.mem_of_getElem? hdg))
        have HE2 : Hd (acc ++ cutL id b (sizeL d) = C0 ++ cutsL id b ((sizes.take (k + 1)).drop 1)) := hid (by
          rw [List.take_add_one, hdg, List.drop_append_of_le_length (by rw [List.length_take, HNS.out]; omega), HE.out]; simp [cutsL])
        have zr := HK.out.size
        have HVR := hid (HV.out.keep HK.out (fun _ _ _ h => h)); have HNR : Hd (Cr.Nib wr) := hid (HN.out.keep HK.out (fun h => h))
        clear hcs hd hdg hks
        go_wp2_with fail
        refine (size_any d _ HD.out.1 HD.out.2).mono ?_
        rintro e wx ⟨rfl, rfl⟩
        have HSL : Hd (1 + around d 256 = sizeL d) := hid rfl
        obtain ⟨yb1, yb2⟩ := sizeL_b d
        rw [HSL.out]
        generalize sizeL d = y at *
        go_wp2_with fail
        refine (Cut_any _ b id y _ HNR.out (HVR.out.mono (fun b h _ => h)) HB.out (by omega)).mono ?_
        rintro e w2 ⟨a3, n3, c3, rfl, rfl, hp3, hk3⟩
        have hgl := cutL_len id b y
        generalize cutL id b y = G at *
        have z3 := hk3.size
        obtain ⟨xs, hxo, hge, hxc⟩ := HP.out
        have KR2 := hid hk3
        have HO := hid (hxo.keep KR2.out (fun _ _ _ h => h)); have HGE := hid hge; have HXC := hid hxc; have HLT : Hd (∀ b, (Value.slice a acc.length c).ownBlock = some b → b < wr.heap.size) := hid (fun b hb => (hxo.1.lt b hb).2)
        obtain ⟨nn, hno, hnge, hnc⟩ := hp3
        have HNROW : Hd (Row (fun _ => True) w2 5 (.slice a3 G.length c3) G.length nn) := hid (hno.row.mono (fun _ _ _ => trivial)); have HNC := hid hnc; have HN1S := hid hnc.ones
        clear hxo hge hxc hk3 hno hnge hnc HP HSL
        go_wp2_with (at_builtin; refine wpList_append_row rfl (.tmp 46) (.tmp 47) 23 rfl 44 i0 zz 5 56 Tryd.underlying23 hi hz0 hz1 hz2 hz3 (by decide) _ (fun _ => True) (.slice a acc.length c) _ acc.length xs rfl HO.out G.length nn rfl HNROW.out HN1S.out (by simp [maxLen]; omega) (by omega) ?_)
        intro a7 c7 w7 hown hk7; try intro _
        have HP7 : Hd (SgP (fun k => w.heap.size ≤ k) w.heap.size w7 (.slice a7 (acc.length + G.length) c7) (acc ++ G)) := hid (sgp_append HGE.out HXC.out KR2.out (HNC.out.mono (fun b _ h => ⟨by omega, fun e => by have := HLT.out b e; omega⟩)) (by omega) hown hk7)
        have K7 : Hd (Keeps (fun _ => False) w w7) := hid ((HK.out.trans KR2.out).trans' hk7 (fun i hi e => by have := HGE.out i e; omega))
        clear hown hk7 HO HGE HXC HLT HNROW HNC HN1S
        go_wp2
        go_roundw
        case rel => exact ⟨acc ++ G, k + 1, a7, c7, by rw [List.length_append], by go_num, by omega, by omega, .inl (by omega), HE2, by rw [List.length_append]; exact HP7, K7⟩
        case measure => simp [intOf]; omega
      · have d1 : decide ((k : Int) < (ns : Int)) = true := by simp; omega
        have d2 : decide ((k : Int) < 4) = false := by simp; omega
        have HAL : Hd (acc = allL id b sizes) := hid (by
          rw [HE.out, show k = 4 by omega]; unfold allL; rw [HZ0.out, HZZ.out, HC0.out])
        clear hks HE
        go_wp2_with fail
        have hpos : 0 < acc.length := by rw [HAL.out]; exact List.length_pos_iff.2 (all_ne (by omega))
        have HP9 := HP; have HK9 := HK
        obtain ⟨WB, hWB⟩ : ∃ WB, WB = wr := ⟨_, rfl⟩
        subst hWB
        go_loopw [14, 15] (fun lv iv wr => ∃ (out : List Seg) (j : Nat) (a2 : Option Addr) (c2 : Nat), lv = .slice a2 out.length c2 ∧ iv = .int .i64 j ∧ j ≤ 60 ∧ j ≤ no ∧ Hd (out = (order.take j).map (atL acc)) ∧ Hd (SgP (fun k => w.heap.size ≤ k ∧ k < WB.heap.size) WB.heap.size wr (.slice a2 out.length c2) out) ∧ Hd (Keeps (fun _ => False) WB wr)) (fun _ x _ => 60 - (intOf x).toNat)
        case atStart => exact ⟨[], 0, none, 0, rfl, rfl, by omega, by omega, hid (by simp), hid (SgP.nil _ _ _), hid (Keeps.refl _ _)⟩
        case round =>
          obtain ⟨out, j, a2, c2, rfl, rfl, hj60, hjn, HE, HPo, HKo⟩ := hrel
          have hol : out.length ≤ 60 := by rw [HE.out, List.length_map, List.length_take]; omega
          have d5 : decide ((0 : Int) < (acc.length : Int)) = true := by simp; omega
          by_cases hjo : j < no
          · by_cases hj6 : j < 60
            · have d3 : decide ((j : Int) < (no : Int)) = true := by simp; omega
              have d4 : decide ((j : Int) < 60) = true := by simp; omega
              have kk1 : (j : Int) < no := by omega
              have kk2 : (0 : Int) ≤ j := by omega
              obtain ⟨bo, oo, rfl, _, hbo, hco⟩ := TEL.out (by omega)
              have g0 := keep_cell HKo.out (fun h => h) (keep_cell HK9.out (fun h => h) (hco j (by omega)))
              obtain ⟨d, hd⟩ : ∃ d, order.getD j 0 = d := ⟨_, rfl⟩
              rw [hd] at g0
              have hdg : order[j]? = some d := by rw [← hd, List.getD, List.getElem?_eq_getElem (by rw [HNO.out]; exact hjo)]; rfl
              have HD : Hd (-9223372036854775808 ≤ d ∧ d ≤ 9223372036854775807) := hid (HOR.out d (List.mem_of_getElem? hdg))
              obtain ⟨r0, r1⟩ := around_b d (show (1 : Int) ≤ (acc.length : Int) by omega)
              obtain ⟨q, hq⟩ : ∃ q : Nat, around d acc.length = q := ⟨(around d acc.length).toNat, by omega⟩
              rw [hq] at r0 r1
              have hqa : q < acc.length := by omega
              obtain ⟨x, hx⟩ : ∃ x, acc[q]? = some x := ⟨acc[q]'hqa, List.getElem?_eq_getElem _⟩
              have HX : Hd (atL acc d = x) := hid (by unfold atL; rw [hq, Int.toNat_natCast, List.getD, hx]; rfl)
              have HE2 : Hd (out ++ [x] = (order.take (j + 1)).map (atL acc)) := hid (by
                rw [List.take_add_one, hdg, List.map_append, ← HE.out]; simp [HX.out])
              have HOFX : Hd (OfF id b x) := hid (all_of x (by rw [← HAL.out]; exact List.mem_of_getElem? hx))
              have hdl : x.d.length ≤ 256 := HOFX.out.n
              obtain ⟨bx, ox, rfl, hbx, x0, x1, x2, x3, ad, cd, x4, SX⟩ := sgp_cells HP9.out hx
              have HQ := hid hq
              have m0 := keep_cell HKo.out (fun h => h) x0; have m1 := keep_cell HKo.out (fun h => h) x1; have m2 := keep_cell HKo.out (fun h => h) x2; have m3 := keep_cell HKo.out (fun h => h) x3; have m4 := keep_cell HKo.out (fun h => h) x4
              have HSX := hid (SX.keep HKo.out (fun _ _ _ h => h)); have HSXB := hid SX
              have zo := HKo.out.size
              clear hco hd hdg x0 x1 x2 x3 x4 SX hq hx HE HOFX
              go_wp2_with fail
              refine (Around_any d (acc.length : Int) _ HD.out.1 HD.out.2 (by omega) (by omega)).mono ?_
              rw [HQ.out]
              rintro e wx ⟨rfl, rfl⟩
              have q1 : (q : Int) < acc.length := by omega
              have q2 : (0 : Int) ≤ q := by omega
              obtain ⟨xs, hxo, hge, hxc⟩ := HPo.out
              have HO := hid hxo; have HGE := hid hge; have HXC := hid hxc; have HLT : Hd (∀ b, (Value.slice a2 out.length c2).ownBlock = some b → b < wr.heap.size) := hid (fun b hb => (hxo.1.lt b hb).2)
              clear hxo hge hxc HPo
              have HC1 : Hd (∀ (W : World) (K : Nat → Prop), Sl K W (.slice ad x.d.length cd) (u8s x.d) → SgC K W [.int .i64 x.f, .int .i64 x.o, .int .i64 x.t, .int .u32 (x.s : Nat), .slice ad x.d.length cd] [x]) := hid (fun W K h => SgC.one h)
              have HSW : Hd (Sl (fun i => w.heap.size ≤ i ∧ i < WB.heap.size) wr (.slice ad x.d.length cd) (u8s x.d)) := hid ((HSXB.out.mono (K' := fun i => w.heap.size ≤ i ∧ i < WB.heap.size) (fun i hi h => ⟨h.1, hi⟩)).keep HKo.out (fun _ _ _ h => h))
              clear HSXB HSX
              go_wp2_with (at_builtin; refine wpList_append_row rfl (.tmp 64) (.tmp 75) 23 rfl 44 i0 zz 5 56 Tryd.underlying23 hi hz0 hz1 hz2 hz3 (by decide) _ (fun _ => True) (.slice a2 out.length c2) _ out.length xs rfl (HO.out.alloc _) 1 [.int .i64 x.f, .int .i64 x.o, .int .i64 x.t, .int .u32 (x.s : Nat), .slice ad x.d.length cd] rfl (by exact lit_rowF _ _ _ 1 5 rfl (by decide)) (by intro u hu; simp at hu; rcases hu with rfl | rfl | rfl | rfl | rfl <;> rfl) (by simp [maxLen]; omega) (by omega) ?_)
              intro a7 c7 w7 hown hk7; try intro _
              have HP7 : Hd (SgP (fun k => w.heap.size ≤ k ∧ k < WB.heap.size) WB.heap.size w7 (.slice a7 (out.length + 1) c7) (out ++ [x])) := hid (sgp_append (V := wr.alloc (.cells #[.int .i64 x.f, .int .i64 x.o, .int .i64 x.t, .int .u32 (x.s : Nat), .slice ad x.d.length cd] 44)) HGE.out HXC.out (keeps_alloc _ _ _) (HC1.out _ _ ((HSW.out.keep (keeps_alloc (fun _ => False) _ _) (fun _ _ _ h => h)).mono (fun i hi h => ⟨h, fun e => by have := HGE.out i e; omega⟩))) (by (try simp); omega) (hown.mono (fun b _ h => h.imp (fun h => h) (fun h => by rw [World.size_alloc]; exact h))) hk7)
              have K7 : Hd (Keeps (fun _ => False) WB w7) := hid ((HKo.out.alloc _).trans' hk7 (fun i hi e => by have := HGE.out i e; omega))
              clear hown hk7 HO HGE HXC HLT HC1 HSW m0 m1 m2 m3 m4
              go_wp2
              go_roundw
              case rel => exact ⟨out ++ [x], j + 1, a7, c7, by rw [List.length_append]; rfl, by go_num, by omega, by omega, HE2, by rw [List.length_append]; exact HP7, K7⟩
              case measure => simp [intOf]; omega
            · have d3 : decide ((j : Int) < (no : Int)) = true := by simp; omega
              have d4 : decide ((j : Int) < 60) = false := by simp; omega
              have HF : Hd (out = A) := hid (by rw [← HA.out, HE.out]; unfold segsL; rw [HAL.out, show j = 60 by omega])
              have HR : Hd (SgRet (fun k => w.heap.size ≤ k) w A (.returned (.slice a2 out.length c2)) wr) := hid ⟨a2, _, c2, rfl, by rw [HF.out], by (rw [← HF.out]; obtain ⟨xs, g1, g2, g3⟩ := HPo.out; exact ⟨xs, g1, fun b hb => by have := g2 b hb; have := HK9.out.size; omega, g3.mono (fun b _ h => ⟨h.1.1, h.2⟩)⟩), HK9.out.trans HKo.out⟩
              clear HE HPo HF
              go_wp2
              go_ret
              exact HR.out
          · have d3 : decide ((j : Int) < (no : Int)) = false := by simp; omega
            have HF : Hd (out = A) := hid (by rw [← HA.out, HE.out]; unfold segsL; rw [HAL.out, List.take_of_length_le (by rw [HNO.out]; omega), List.take_of_length_le (by rw [HNO.out]; omega)])
            have HR : Hd (SgRet (fun k => w.heap.size ≤ k) w A (.returned (.slice a2 out.length c2)) wr) := hid ⟨a2, _, c2, rfl, by rw [HF.out], by (rw [← HF.out]; obtain ⟨xs, g1, g2, g3⟩ := HPo.out; exact ⟨xs, g1, fun b hb => by have := g2 b hb; have := HK9.out.size; omega, g3.mono (fun b _ h => ⟨h.1.1, h.2⟩)⟩), HK9.out.trans HKo.out⟩
            clear HE HPo HF
            go_wp2
            go_ret
            exact HR.out
    · have d1 : decide ((k : Int) < (ns : Int)) = false := by simp; omega
      have HAL : Hd (acc = allL id b sizes) := hid (by
        rw [HE.out]; unfold allL; rw [HZ0.out, HZZ.out, HC0.out]
        rcases hks with h | h
        · rw [List.take_of_length_le (by rw [HNS.out]; omega), List.take_of_length_le (by rw [HNS.out]; omega)]
        · rw [show (sizes.take k).drop 1 = [] by rw [h]; rcases sizes with _ | ⟨s, l⟩ <;> simp, show (sizes.take 4).drop 1 = [] by (rcases hsz : sizes with _ | ⟨s, l⟩; simp; rcases l with _ | ⟨s2, l⟩; simp; have h5 := HNS.out; rw [hsz] at h5; simp at h5; omega)])
      clear hks HE
      go_wp2_with fail
      have hpos : 0 < acc.length := by rw [HAL.out]; exact List.length_pos_iff.2 (all_ne (by omega))
      have HP9 := HP; have HK9 := HK
      obtain ⟨WB, hWB⟩ : ∃ WB, WB = wr := ⟨_, rfl⟩
      subst hWB
      go_loopw [14, 15] (fun lv iv wr => ∃ (out : List Seg) (j : Nat) (a2 : Option Addr) (c2 : Nat), lv = .slice a2 out.length c2 ∧ iv = .int .i64 j ∧ j ≤ 60 ∧ j ≤ no ∧ Hd (out = (order.take j).map (atL acc)) ∧ Hd (SgP (fun k => w.heap.size ≤ k ∧ k < WB.heap.size) WB.heap.size wr (.slice a2 out.length c2) out) ∧ Hd (Keeps (fun _ => False) WB wr)) (fun _ x _ => 60 - (intOf x).toNat)
      case atStart => exact ⟨[], 0, none, 0, rfl, rfl, by omega, by omega, hid (by simp), hid (SgP.nil _ _ _), hid (Keeps.refl _ _)⟩
      case round =>
        obtain ⟨out, j, a2, c2, rfl, rfl, hj60, hjn, HE, HPo, HKo⟩ := hrel
        have hol : out.length ≤ 60 := by rw [HE.out, List.length_map, List.length_take]; omega
        have d5 : decide ((0 : Int) < (acc.length : Int)) = true := by simp; omega
        by_cases hjo : j < no
        · by_cases hj6 : j < 60
          · have d3 : decide ((j : Int) < (no : Int)) = true := by simp; omega
            have d4 : decide ((j : Int) < 60) = true := by simp; omega
            have kk1 : (j : Int) < no := by omega
            have kk2 : (0 : Int) ≤ j := by omega
            obtain ⟨bo, oo, rfl, _, hbo, hco⟩ := TEL.out (by omega)
            have g0 := keep_cell HKo.out (fun h => h) (keep_cell HK9.out (fun h => h) (hco j (by omega)))
            obtain ⟨d, hd⟩ : ∃ d, order.getD j 0 = d := ⟨_, rfl⟩
            rw [hd] at g0
            have hdg : order[j]? = some d := by rw [← hd, List.getD, List.getElem?_eq_getElem (by rw [HNO.out]; exact hjo)]; rfl
            have HD : Hd (-9223372036854775808 ≤ d ∧ d ≤ 9223372036854775807) := hid (HOR.out d (List.mem_of_getElem? hdg))
            obtain ⟨r0, r1⟩ := around_b d (show (1 : Int) ≤ (acc.length : Int) by omega)
            obtain ⟨q, hq⟩ : ∃ q : Nat, around d acc.length = q := ⟨(around d acc.length).toNat, by omega⟩
            rw [hq] at r0 r1
            have hqa : q < acc.length := by omega
            obtain ⟨x, hx⟩ : ∃ x, acc[q]? = some x := ⟨acc[q]'hqa, List.getElem?_eq_getElem _⟩
            have HX : Hd (atL acc d = x) := hid (by unfold atL; rw [hq, Int.toNat_natCast, List.getD, hx]; rfl)
            have HE2 : Hd (out ++ [x] = (order.take (j + 1)).map (atL acc)) := hid (by
              rw [List.take_add_one, hdg, List.map_append, ← HE.out]; simp [HX.out])
            have HOFX : Hd (OfF id b x) := hid (all_of x (by rw [← HAL.out]; exact List.mem_of_getElem? hx))
            have hdl : x.d.length ≤ 256 := HOFX.out.n
            obtain ⟨bx, ox, rfl, hbx, x0, x1, x2, x3, ad, cd, x4, SX⟩ := sgp_cells HP9.out hx
            have HQ := hid hq
            have m0 := keep_cell HKo.out (fun h => h) x0; have m1 := keep_cell HKo.out (fun h => h) x1; have m2 := keep_cell HKo.out (fun h => h) x2; have m3 := keep_cell HKo.out (fun h => h) x3; have m4 := keep_cell HKo.out (fun h => h) x4
            have HSX := hid (SX.keep HKo.out (fun _ _ _ h => h)); have HSXB := hid SX
            have zo := HKo.out.size
            clear hco hd hdg x0 x1 x2 x3 x4 SX hq hx HE HOFX
            go_wp2_with fail
            refine (Around_any d (acc.length : Int) _ HD.out.1 HD.out.2 (by omega) (by omega)).mono ?_
            rw [HQ.out]
            rintro e wx ⟨rfl, rfl⟩
            have q1 : (q : Int) < acc.length := by omega
            have q2 : (0 : Int) ≤ q := by omega
            obtain ⟨xs, hxo, hge, hxc⟩ := HPo.out
            have HO := hid hxo; have HGE := hid hge; have HXC := hid hxc; have HLT : Hd (∀ b, (Value.slice a2 out.length c2).ownBlock = some b → b < wr.heap.size) := hid (fun b hb => (hxo.1.lt b hb).2)
            clear hxo hge hxc HPo
            have HC1 : Hd (∀ (W : World) (K : Nat → Prop), Sl K W (.slice ad x.d.length cd) (u8s x.d) → SgC K W [.int .i64 x.f, .int .i64 x.o, .int .i64 x.t, .int .u32 (x.s : Nat), .slice ad x.d.length cd] [x]) := hid (fun W K h => SgC.one h)
            have HSW : Hd (Sl (fun i => w.heap.size ≤ i ∧ i < WB.heap.size) wr (.slice ad x.d.length cd) (u8s x.d)) := hid ((HSXB.out.mono (K' := fun i => w.heap.size ≤ i ∧ i < WB.heap.size) (fun i hi h => ⟨h.1, hi⟩)).keep HKo.out (fun _ _ _ h => h))
            clear HSXB HSX
            go_wp2_with (at_builtin; refine wpList_append_row rfl (.tmp 64) (.tmp 75) 23 rfl 44 i0 zz 5 56 Tryd.underlying23 hi hz0 hz1 hz2 hz3 (by decide) _ (fun _ => True) (.slice a2 out.length c2) _ out.length xs rfl (HO.out.alloc _) 1 [.int .i64 x.f, .int .i64 x.o, .int .i64 x.t, .int .u32 (x.s : Nat), .slice ad x.d.length cd] rfl (by exact lit_rowF _ _ _ 1 5 rfl (by decide)) (by intro u hu; simp at hu; rcases hu with rfl | rfl | rfl | rfl | rfl <;> rfl) (by simp [maxLen]; omega) (by omega) ?_)
            intro a7 c7 w7 hown hk7; try intro _
            have HP7 : Hd (SgP (fun k => w.heap.size ≤ k ∧ k < WB.heap.size) WB.heap.size w7 (.slice a7 (out.length + 1) c7) (out ++ [x])) := hid (sgp_append (V := wr.alloc (.cells #[.int .i64 x.f, .int .i64 x.o, .int .i64 x.t, .int .u32 (x.s : Nat), .slice ad x.d.length cd] 44)) HGE.out HXC.out (keeps_alloc _ _ _) (HC1.out _ _ ((HSW.out.keep (keeps_alloc (fun _ => False) _ _) (fun _ _ _ h => h)).mono (fun i hi h => ⟨h, fun e => by have := HGE.out i e; omega⟩))) (by (try simp); omega) (hown.mono (fun b _ h => h.imp (fun h => h) (fun h => by rw [World.size_alloc]; exact h))) hk7)
            have K7 : Hd (Keeps (fun _ => False) WB w7) := hid ((HKo.out.alloc _).trans' hk7 (fun i hi e => by have := HGE.out i e; omega))
            clear hown hk7 HO HGE HXC HLT HC1 HSW m0 m1 m2 m3 m4
            go_wp2
            go_roundw
            case rel => exact ⟨out ++ [x], j + 1, a7, c7, by rw [List.length_append]; rfl, by go_num, by omega, by omega, HE2, by rw [List.length_append]; exact HP7, K7⟩
            case measure => simp [intOf]; omega
          · have d3 : decide ((j : Int) < (no : Int)) = true := by simp; omega
            have d4 : decide ((j : Int) < 60) = false := by simp; omega
            have HF : Hd (out = A) := hid (by rw [← HA.out, HE.out]; unfold segsL; rw [HAL.out, show j = 60 by omega])
            have HR : Hd (SgRet (fun k => w.heap.size ≤ k) w A (.returned (.slice a2 out.length c2)) wr) := hid ⟨a2, _, c2, rfl, by rw [HF.out], by (rw [← HF.out]; obtain ⟨xs, g1, g2, g3⟩ := HPo.out; exact ⟨xs, g1, fun b hb => by have := g2 b hb; have := HK9.out.size; omega, g3.mono (fun b _ h => ⟨h.1.1, h.2⟩)⟩), HK9.out.trans HKo.out⟩
            clear HE HPo HF
            go_wp2
            go_ret
            exact HR.out
        · have d3 : decide ((j : Int) < (no : Int)) = false := by simp; omega
          have HF : Hd (out = A) := hid (by rw [← HA.out, HE.out]; unfold segsL; rw [HAL.out, List.take_of_length_le (by rw [HNO.out]; omega), List.take_of_length_le (by rw [HNO.out]; omega)])
          have HR : Hd (SgRet (fun k => w.heap.size ≤ k) w A (.returned (.slice a2 out.length c2)) wr) := hid ⟨a2, _, c2, rfl, by rw [HF.out], by (rw [← HF.out]; obtain ⟨xs, g1, g2, g3⟩ := HPo.out; exact ⟨xs, g1, fun b hb => by have := g2 b hb; have := HK9.out.size; omega, g3.mono (fun b _ h => ⟨h.1.1, h.2⟩)⟩), HK9.out.trans HKo.out⟩
          clear HE HPo HF
          go_wp2
          go_ret
          exact HR.out
end Go.Proofs.YtgeicbjlichdgaaDoor
