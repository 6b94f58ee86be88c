/- Custody: TopCu, TopCus: walks and plain facts. -/
import Derived.Test.YtgfekgceeigdiaaDoorTopCar
import Derived.Test.YtgfekgceeigdiaaDoorBaseAll
import Derived.Test.YtgfekgceeigdiaaDoorFileOne
import Derived.Test.YtgfekgceeigdiaaDoorCrcAll
import Derived.StillTailTactics
namespace Go.Proofs.YtgfekgceeigdiaaDoor
open Go.RowKit
attribute [local go_sem ↓] Go.wp_at_zero Go.wp_at_succ
theorem row_pre {K : Nat → Prop} {w : World} {a : Option Addr} {m cap : Nat} {xs : List Value} (h : Row K w 1 (.slice a m cap) m xs) {u : Nat} (hu : u ≤ m) : Row K w 1 (.slice a u cap) u (xs.take u) := by
  have hl := h.1
  rcases h.2 with ⟨e, e0⟩ | ⟨ad, cp, e, h1, h2, h3⟩
  · injection e with q1 q2 q3
    subst q1; subst q3
    obtain rfl : u = 0 := by omega
    exact ⟨by simp, .inl ⟨rfl, rfl⟩⟩
  · injection e with q1 q2 q3
    subst q1; subst q3
    refine ⟨by rw [List.length_take, hl]; omega, .inr ⟨_, _, rfl, by omega, h2, fun hn => ?_⟩⟩
    obtain ⟨b, o, ea, hK, hb, hc⟩ := h3 (by omega)
    exact ⟨b, o, ea, hK, hb, fun j hj => by
      rw [hc j (by omega)]
      have : j < u := by omega
      simp [List.getD, List.getElem?_take, this]⟩
theorem src_blk {V : World} {g : Nat} {cs : Array Value} {T : TypeId} (h : Blk V g cs T) (n size : Nat) (hl : cs.size = n * size) (hm : n ≤ maxLen) : Row (fun _ => True) V size (.slice (some ⟨g, 0, none⟩) n n) n cs.toList :=
  ⟨by simpa using hl, .inr ⟨_, n, rfl, Nat.le_refl _, hm, fun _ => ⟨g, 0, rfl, trivial, blk_lt h, fun j hj => by
    rw [Nat.zero_add, blk_cell h j]
    have : j < cs.size := by omega
    simp [List.getD, this]⟩⟩⟩
def ArrT (s : Nat) (K : Nat → Prop) (w : World) (v : Value) (n : Nat) : Prop := ∃ a cap, v = .slice a n cap ∧ n ≤ cap ∧ cap ≤ maxLen ∧
  ∀ k, k < n → ∃ b o, a = some ⟨b, o, none⟩ ∧ K b ∧ b < w.heap.size ∧ ∀ j, j < s → ∃ z : Int, w.cell? ⟨b, o + k * s + j, none⟩ = some (.int .i64 z) ∧ -9223372036854775808 ≤ z ∧ z ≤ 9223372036854775807
theorem ArrT.keep {s : Nat} {K S : Nat → Prop} {w w' : World} {v : Value} {n : Nat} (h : ArrT s K w v n) (hk : Keeps S w w') (hd : ∀ b, b < w.heap.size → K b → ¬ S b) : ArrT s K w' v n := by
  obtain ⟨a, cap, h1, h2, h3, h4⟩ := h
  refine ⟨a, cap, h1, h2, h3, fun k hkk => ?_⟩
  obtain ⟨b, o, g1, g2, g3, g4⟩ := h4 k hkk
  refine ⟨b, o, g1, g2, Nat.lt_of_lt_of_le g3 hk.size, fun j hj => ?_⟩
  obtain ⟨z, z1, z2⟩ := g4 j hj
  exact ⟨z, keep_cell hk (hd b g3 g2) z1, z2⟩
theorem ArrT.mono {s : Nat} {K K' : Nat → Prop} {w : World} {v : Value} {n : Nat} (h : ArrT s K w v n) (hd : ∀ b, b < w.heap.size → K b → K' b) : ArrT s K' w v n := by
  obtain ⟨a, cap, h1, h2, h3, h4⟩ := h
  refine ⟨a, cap, h1, h2, h3, fun k hkk => ?_⟩
  obtain ⟨b, o, g1, g2, g3, g4⟩ := h4 k hkk
  exact ⟨b, o, g1, hd b g3 g2, g3, g4⟩
set_option maxRecDepth 100000 in set_option maxHeartbeats 1000000 in
theorem Few_any (K : Nat → Prop) (v : Value) (b : List Nat) (most : Int) (w : World) (hv : Sl K w v (u8s b)) (h0 : 0 ≤ most) (hu : (b.take most.toNat).length ≤ 1000000000) :
    Calls Tryd.prog 4 #[v, .int .i64 most] w fun e w' => Li.NewRet w 5 (u8s (b.take most.toNat)) e w' := by
  obtain ⟨i0, hi, hz0, hz1, hz2⟩ := info_parts Li.infoU8
  obtain ⟨a, cap, rfl, q1, q2, _⟩ := hv.bytes
  have hrow : Row K w 1 (.slice a b.length cap) b.length (u8s b) := sl_row hv (by simp)
  unfold maxLen at q2
  have HO : Hd (Own (fun k => w.heap.size ≤ k) w 5 1 (.slice none 0 0) 0 []) := hid (Own.nil _ _ _ _)
  have main : ∀ (u : Nat) (hh : Int), hh = (u : Int) → u ≤ b.length → b.take most.toNat = b.take u → (((b.length : Int) ≤ most ∧ hh = b.length) ∨ (most < b.length ∧ hh = most)) →
      Calls Tryd.prog 4 #[.slice a b.length cap, .int .i64 most] w fun e w' => Li.NewRet w 5 (u8s (b.take most.toNat)) e w' := by
    intro u hh hu1 hu2 hu3 hu4
    have hmin : (min (b.length : Int) most).toNat = u := by omega
    have HR : Hd (Row K w 1 (.slice a (min (b.length : Int) most).toNat cap) u ((u8s b).take (u * 1))) := hid (by rw [hmin, Nat.mul_one]; exact row_pre hrow hu2)
    have HT := hid hu3
    have HL : Hd ((b.take u).length = u) := hid (by rw [List.length_take]; omega)
    have hu9 : u ≤ 1000000000 := by rw [hu3, HL.out] at hu; exact hu
    generalize b.length = n at *
    clear hu hu3 hmin hrow hv
    rcases hu4 with ⟨g1, rfl⟩ | ⟨g1, rfl⟩
    all_goals
      clear hu1
      go_enter Tryd.func4, Tryd.ntmps4
      go_wp2_with (at_builtin; refine wpList_append_row rfl _ _ 22 rfl 5 i0 (.int .u8 0) 1 1 Tryd.underlying22 hi hz0 hz1 hz2 rfl (by decide) _ K _ _ _ _ rfl HO.out u _ rfl HR.out ?h1 ?h2 ?h3 ?_)
      case h1 => intro x hx; exact u8s_one b x (List.mem_of_mem_take hx)
      case h2 => simp [maxLen]; omega
      case h3 => omega
      intro a1 cap1 w2 hown' hgrow; try intro _
      try simp only [Nat.zero_add, List.nil_append] at hown'
      have H1 := hid hown'; have H2 := hid hgrow; clear hown' hgrow
      go_wp2
      go_ret
      refine ⟨a1, u, cap1, by simp, by rw [u8s_length, HT.out, HL.out], ?_, H2.out.mono (fun i hi h => by omega)⟩
      rw [HT.out]
      have h1 := H1.out.mono (K' := fun k => w.heap.size ≤ k) (fun b hb hh => by
        first | exact hh | (rcases hh with hh | hh <;> exact hh))
      have e2 : u8s (b.take u) = (u8s b).take (u * 1) := by unfold u8s; rw [List.map_take, Nat.mul_one]
      rw [e2]
      simpa using h1
  rcases Int.lt_or_le most b.length with h | h
  · exact main most.toNat most (by omega) (by omega) rfl (.inr ⟨h, rfl⟩)
  · exact main b.length b.length rfl (Nat.le_refl _) (by rw [List.take_of_length_le (by omega), List.take_of_length_le (Nat.le_refl _)]) (.inl ⟨h, rfl⟩)
def cellsF (u : Value) (f : Li.Ft) : List Value := [.int .i64 f.m, .int .i64 f.k, .int .i64 f.dl, .int .i64 f.a, u]
def ftC (u : Value) (l : List Li.Ft) : List Value := l.flatMap (cellsF u)
theorem ftC_get {u : Value} : ∀ {l : List Li.Ft} {i : Nat} {f : Li.Ft} {j : Nat}, l[i]? = some f → j < 5 → (ftC u l).getD (i * 5 + j) undef = (cellsF u f).getD j undef
  | [], i, f, j, h, _ => by simp at h
  | g :: l, 0, f, j, h, hj => by
    simp at h; subst h
    unfold ftC List.getD
    rw [List.flatMap_cons, List.getElem?_append_left (by show 0 * 5 + j < 5; omega), Nat.zero_mul, Nat.zero_add]
  | g :: l, i + 1, f, j, h, hj => by
    have h' : l[i]? = some f := by simpa using h
    have ih := ftC_get (u := u) h' hj
    unfold ftC List.getD at *
    rw [List.flatMap_cons, List.getElem?_append_right (by show 5 ≤ (i + 1) * 5 + j; omega)]
    have e : (i + 1) * 5 + j - (cellsF u g).length = i * 5 + j := by show (i + 1) * 5 + j - 5 = _; omega
    rw [e]; exact ih
theorem fts_of {K : Nat → Prop} {w : World} {a : Option Addr} {c : Nat} {l : List Li.Ft} {sa : Option Addr} {sn sc : Nat} {S : List Nat} (hr : Row K w 5 (.slice a l.length c) l.length (ftC (.slice sa sn sc) l)) (hs : Sl K w (.slice sa sn sc) (u8s S)) (hf : ∀ f ∈ l, f.fg = S) :
    Li.Fts K w (.slice a l.length c) l := by
  refine ⟨_, by rw [List.length_map]; exact hr, fun i x hx => ?_⟩
  rw [List.getElem?_map, Option.map_eq_some_iff] at hx
  obtain ⟨f, hi, rfl⟩ := hx
  have key := fun j (hj : j < 5) => ftC_get (u := .slice sa sn sc) hi hj
  have e := hf f (List.mem_of_getElem? hi)
  refine ⟨(key 0 (by omega)).trans rfl, (key 1 (by omega)).trans rfl, (key 2 (by omega)).trans rfl, (key 3 (by omega)).trans rfl, ?_⟩
  show Sl K w ((ftC (.slice sa sn sc) l).getD (i * 5 + 4) undef) (u8s f.fg)
  rw [key 4 (by omega), e]
  exact hs
theorem infoFtT : (Tryd.prog.info? 33).map (fun i => (i.size, i.bytes)) = some (5, 56) := by kernel_rfl
theorem infoFtzT : ((Tryd.prog.info? 33).bind (·.zero)).map (fun z => z.cells) = some #[.int .i64 0, .int .i64 0, .int .i64 0, .int .i64 0, .slice none 0 0] := by kernel_rfl
theorem ft_partsT : ∃ i z, Tryd.prog.info? 33 = some i ∧ i.zero = some z ∧ i.size = 5 ∧ i.bytes = 56 ∧ z.cells.size = 5 := by
  obtain ⟨i, hi, h1⟩ := Option.map_eq_some_iff.1 infoFtT
  have h2 := infoFtzT
  rw [hi] at h2
  obtain ⟨z, hz, h3⟩ := Option.map_eq_some_iff.1 h2
  simp only [Prod.mk.injEq] at h1
  exact ⟨i, z, hi, hz, h1.1, h1.2, by rw [h3]; rfl⟩
theorem perigee_any (g : Nat) (w : World) (hN : Cr.Nib w) (hs0 : Sl (fun _ => True) w (.slice (some ⟨g, 0, none⟩) 7 7) (u8s [112, 101, 114, 105, 103, 101, 101])) :
    Calls Tryd.prog 6 #[.slice (some ⟨g, 0, none⟩) 7 7, .int .i64 2, .slice none 0 0] w fun e w' => e = .returned (.bool true) ∧ Keeps (fun _ => False) w w' := by
  have hs : Sl (fun b => b < w.heap.size) w (.slice (some ⟨g, 0, none⟩) 7 7) (u8s [112, 101, 114, 105, 103, 101, 101]) := hs0.mono (fun b hb _ => hb)
  exact carried_any (.slice (some ⟨g, 0, none⟩) 7 7) [112, 101, 114, 105, 103, 101, 101] 2 [] none 0 w hN hs (by decide) (.inr ⟨rfl, rfl⟩) (by simp) ⟨by simp, (fun f h => by cases h), (fun f h => by cases h), (fun f h => by cases h)⟩ ⟨[], ⟨rfl, .inl ⟨rfl, rfl⟩⟩, fun i x h => by simp at h⟩
end Go.Proofs.YtgfekgceeigdiaaDoor
namespace Go.Proofs.YtgfekgceeigdiaaDoor
open Go.RowKit
attribute [local go_sem ↓] Go.wp_at_zero Go.wp_at_succ
set_option maxRecDepth 100000 in
set_option maxHeartbeats 4000000 in
theorem custody_any (v0 : Value) (l0 : List Nat) (n1 : Nat) (v2 : Value) (m : Nat) (v3 : Value) (l3 : List Nat) (w : World) (hN : Cr.Nib w) (h0 : Sl (fun b => b < w.heap.size) w v0 (u8s l0)) (hl0 : ∀ c ∈ l0, c < 256) (hs1 : n1 < 256)
    (h2 : ArrT 4 (fun b => b < w.heap.size) w v2 m) (h3 : Sl (fun b => b < w.heap.size) w v3 (u8s l3)) (hl3 : ∀ c ∈ l3, c < 256) :
    Calls Tryd.prog 3 #[v0, .int .u8 (n1 : Int), v2, v3] w fun e w' => e = .returned (.bool true) ∧ Keeps (fun _ => False) w w' := by
  obtain ⟨i0, zz, hi, hz0, hz1, hz2, hz3⟩ := ft_partsT
  have hpos : 0 < w.heap.size := NibF.pos (show NibF w from hN)
  obtain ⟨va, vc, rfl, -, -⟩ := h0.bytes
  obtain ⟨ra, rc, rfl, hrc, hrm, hel⟩ := h2
  obtain ⟨S, hS⟩ : ∃ S, l3.take 60 = S := ⟨_, rfl⟩
  have hS8 : ∀ c ∈ S, c < 256 := by rw [← hS]; exact fun c hc => hl3 c (List.mem_of_mem_take hc)
  have hSl : S.length ≤ 60 := by rw [← hS, List.length_take]; omega
  have hfew := fun X (hX : Keeps (fun _ => False) w X) => Few_any _ v3 l3 60 X (h3.keep hX (fun _ _ _ h => h)) (by omega) (by rw [List.length_take]; show min 60 _ ≤ _; omega)
  have e60 : l3.take (60 : Int).toNat = S := hS
  rw [e60] at hfew
  have hopen := fun X (hX : Cr.Nib X) v (hs : Sl (fun _ => True) X v (u8s S)) => Cr.Open_any (fun _ => True) v S X hX hs hS8 (by omega)
  obtain ⟨oe, hoe⟩ : ∃ e, (Cr.opened S).2 = e := ⟨_, rfl⟩
  have HEL := hid hel; have HFEW := hid hfew; have HOPEN := hid hopen; have HOE := hid hoe; have HS8 := hid hS8; have HSL := hid hSl; have HN : Hd (NibF w) := hid hN; have HV := hid h0; have HL0 := hid hl0
  have HCAR : Hd (∀ (z : Int) (fts : List Li.Ft) (fa : Option Addr) (fc : Nat) (X : World), l0.length ≤ 400 → l0 ≠ [] → 50 ≤ z → z ≤ 255 → Keeps (fun _ => False) w X → FtsOk fts → Li.Fts (fun b => b < X.heap.size) X (.slice fa fts.length fc) fts →
      Calls Tryd.prog 6 #[.slice va l0.length vc, .int .i64 z, .slice fa fts.length fc] X fun e w' => e = .returned (.bool true) ∧ Keeps (fun _ => False) X w') := hid (fun z fts fa fc X g1 g2 g3 g4 hX hF hft =>
    carried_any (.slice va l0.length vc) l0 z fts fa fc X (Cr.Nib.keep HN.out hX (fun h => h)) ((HV.out.keep hX (fun _ _ _ h => h)).mono (fun b hb _ => hb)) HL0.out (.inl ⟨g3, g4, g1⟩) g2 hF hft)
  have HL1 : Hd (1 ≤ l0.length → l0 ≠ []) := hid (fun h e => by rw [e] at h; simp at h)
  clear hel hfew hopen hoe hS8 hSl hN h0 hl0 h3 hl3 hS e60 HV HL0
  obtain ⟨ln, hln⟩ : ∃ n, l0.length = n := ⟨_, rfl⟩
  rw [hln] at HCAR HL1 ⊢
  clear hln
  go_enter Tryd.func3, Tryd.ntmps3
  go_wp2_with fail
  refine (HFEW.out _ (Keeps.refl _ _)).mono ?_
  rintro e W1 ⟨sa, sn, sc, rfl, hsn, hso, hk1⟩
  have HSS : Hd (Sl (fun b => w.heap.size ≤ b) W1 (.slice sa sn sc) (u8s S)) := hid (row_sl hso.row hsn.symm)
  have HK1 := hid hk1
  have HN1 : Hd (NibF W1) := hid (Cr.Nib.keep HN.out hk1 (fun h => h))
  have zw1 := hk1.size
  clear hsn hso hk1 HFEW
  go_wp2_with fail
  refine (HOPEN.out _ HN1.out _ (HSS.out.mono (fun _ _ _ => trivial))).mono ?_
  rintro e W2 ⟨oa, on, oc, rfl, -, -, hk2⟩
  rw [HOE.out]
  have HK2 := hid (HK1.out.trans hk2)
  have HS2 := hid (HSS.out.keep hk2 (fun _ _ _ h => h))
  have HN2 : Hd (NibF W2) := hid (Cr.Nib.keep HN1.out hk2 (fun h => h))
  have zw2 := hk2.size
  clear hk2 HSS HK1 HN1 HOPEN
  by_cases hA : ln < 1
  · have d1 : (ln : Int) < 1 := by omega
    have HNP := HN2
    have HKP := HK2
    have v1 : (convert 22 22 (.slice (some ⟨W2.heap.size, 0, none⟩) 7 7)).run Tryd.prog (W2.alloc (.cells #[.int .u8 112, .int .u8 101, .int .u8 114, .int .u8 105, .int .u8 103, .int .u8 101, .int .u8 101] 5)) = .ok (.slice (some ⟨W2.heap.size, 0, none⟩) 7 7) (W2.alloc (.cells #[.int .u8 112, .int .u8 101, .int .u8 114, .int .u8 105, .int .u8 103, .int .u8 101, .int .u8 101] 5 (7, 8))) := Cr.conv_lit W2 _ 7 7
    go_wp2_with fail
    refine (perigee_any _ _ (Cr.Nib.keep HNP.out (keeps_alloc (fun _ => False) _ _) (fun h => h)) (Cr.lit_slm W2 [112, 101, 114, 105, 103, 101, 101] (7, 8) (by decide))).mono ?_
    rintro e W9 ⟨rfl, hk9⟩
    have HKF : Hd (Keeps (fun _ => False) w W9) := hid ((HKP.out.alloc _).trans hk9)
    clear hk9 v1
    go_wp2
    go_ret
    exact ⟨rfl, HKF.out⟩
  by_cases hB : 400 < ln
  · have d1 : ¬ (ln : Int) < 1 := by omega
    have d2 : (400 : Int) < ln := by omega
    have HNP := HN2
    have HKP := HK2
    have v1 : (convert 22 22 (.slice (some ⟨W2.heap.size, 0, none⟩) 7 7)).run Tryd.prog (W2.alloc (.cells #[.int .u8 112, .int .u8 101, .int .u8 114, .int .u8 105, .int .u8 103, .int .u8 101, .int .u8 101] 5)) = .ok (.slice (some ⟨W2.heap.size, 0, none⟩) 7 7) (W2.alloc (.cells #[.int .u8 112, .int .u8 101, .int .u8 114, .int .u8 105, .int .u8 103, .int .u8 101, .int .u8 101] 5 (7, 8))) := Cr.conv_lit W2 _ 7 7
    go_wp2_with fail
    refine (perigee_any _ _ (Cr.Nib.keep HNP.out (keeps_alloc (fun _ => False) _ _) (fun h => h)) (Cr.lit_slm W2 [112, 101, 114, 105, 103, 101, 101] (7, 8) (by decide))).mono ?_
    rintro e W9 ⟨rfl, hk9⟩
    have HKF : Hd (Keeps (fun _ => False) w W9) := hid ((HKP.out.alloc _).trans hk9)
    clear hk9 v1
    go_wp2
    go_ret
    exact ⟨rfl, HKF.out⟩
  by_cases hC : oe = 0
  · have d1 : ¬ (ln : Int) < 1 := by omega
    have d2 : ¬ (400 : Int) < ln := by omega
    have d3 : (oe == 0) = true := by simp; exact hC
    have HNP := HN2
    have HKP := HK2
    have v1 : (convert 22 22 (.slice (some ⟨W2.heap.size, 0, none⟩) 7 7)).run Tryd.prog (W2.alloc (.cells #[.int .u8 112, .int .u8 101, .int .u8 114, .int .u8 105, .int .u8 103, .int .u8 101, .int .u8 101] 5)) = .ok (.slice (some ⟨W2.heap.size, 0, none⟩) 7 7) (W2.alloc (.cells #[.int .u8 112, .int .u8 101, .int .u8 114, .int .u8 105, .int .u8 103, .int .u8 101, .int .u8 101] 5 (7, 8))) := Cr.conv_lit W2 _ 7 7
    go_wp2_with fail
    refine (perigee_any _ _ (Cr.Nib.keep HNP.out (keeps_alloc (fun _ => False) _ _) (fun h => h)) (Cr.lit_slm W2 [112, 101, 114, 105, 103, 101, 101] (7, 8) (by decide))).mono ?_
    rintro e W9 ⟨rfl, hk9⟩
    have HKF : Hd (Keeps (fun _ => False) w W9) := hid ((HKP.out.alloc _).trans hk9)
    clear hk9 v1
    go_wp2
    go_ret
    exact ⟨rfl, HKF.out⟩
  have d1 : ¬ (ln : Int) < 1 := by omega
  have d2 : ¬ (400 : Int) < ln := by omega
  have d3 : (oe == 0) = false := by simp; exact hC
  have HIN : Hd (inert S) := hid (.inl (by rw [HOE.out]; exact hC))
  go_wp2_with fail
  go_loopw [12, 13] (fun o i wr => ∃ (k : Nat) (a : Option Addr) (c : Nat) (fts : List Li.Ft), o = .slice a k c ∧ i = .int .i64 k ∧ k ≤ m ∧ k ≤ 40 ∧ Hd (fts.length = k) ∧ Hd (∀ f ∈ fts, f.fg = S) ∧ Hd (Own (fun b => W2.heap.size ≤ b) wr 33 5 (.slice a k c) k (ftC (.slice sa sn sc) fts)) ∧ Hd (Keeps (fun _ => False) W2 wr)) (fun _ i _ => m - (intOf i).toNat)
  case atStart => exact ⟨0, none, 0, [], rfl, rfl, Nat.zero_le _, Nat.zero_le _, hid rfl, hid (by simp), hid (Own.nil _ _ _ _), hid (Keeps.refl _ _)⟩
  case round =>
    obtain ⟨V, rfl⟩ : ∃ V, V = wr := ⟨_, rfl⟩
    obtain ⟨k, a, c, fts, rfl, rfl, hk, hk40, HLN, HFG, HOW, HKR⟩ := hrel
    have zr := HKR.out.size
    by_cases hkm : k < m ∧ k < 40
    · obtain ⟨g1, g2⟩ := hkm
      obtain ⟨b, o, rfl, hbw, -, hc4⟩ := HEL.out k g1
      obtain ⟨z0, y0, x0, r0⟩ := hc4 0 (by omega)
      obtain ⟨z1, y1, x1, r1⟩ := hc4 1 (by omega)
      obtain ⟨z2, y2, x2, r2⟩ := hc4 2 (by omega)
      obtain ⟨z3, y3, x3, r3⟩ := hc4 3 (by omega)
      have HSQ : Hd (∀ w', Keeps (fun b => W2.heap.size ≤ b) V w' → (w'.cell? ⟨b, o + k * 4, none⟩ = some (.int .i64 z0) ∧ w'.cell? ⟨b, o + k * 4 + 1, none⟩ = some (.int .i64 z1) ∧ w'.cell? ⟨b, o + k * 4 + 2, none⟩ = some (.int .i64 z2) ∧ w'.cell? ⟨b, o + k * 4 + 3, none⟩ = some (.int .i64 z3))) := hid (fun w' hk => ⟨keep_cell hk (fun h => by omega) (keep_cell (HK2.out.trans HKR.out) (fun h => h) y0), keep_cell hk (fun h => by omega) (keep_cell (HK2.out.trans HKR.out) (fun h => h) y1), keep_cell hk (fun h => by omega) (keep_cell (HK2.out.trans HKR.out) (fun h => h) y2), keep_cell hk (fun h => by omega) (keep_cell (HK2.out.trans HKR.out) (fun h => h) y3)⟩)
      have B0 := hid (And.intro x0 r0); have B1 := hid (And.intro x1 r1)
      clear y0 y1 y2 y3 x0 x1 x2 x3 r0 r1 r2 r3 hc4
      have k1 : (k : Int) < m := by omega
      have k2 : (0 : Int) ≤ k := by omega
      have k3 : (k : Int) < 40 := by omega
      have KC : Hd (Keeps (fun _ => False) V V) := hid (Keeps.refl _ _)
      have HAW : Hd (∀ (n mm : Int) (X : World), (n = z0 ∨ n = z1) → (mm = 60 ∨ mm = 6) → Calls Tryd.prog 7 #[.int .i64 n, .int .i64 mm] X fun e w' => e = .returned (.int .i64 (around n mm)) ∧ X = w') := hid (fun n mm X h1 h2 => by
        rcases h1 with rfl | rfl
        · exact Around_any _ mm X B0.out.1 B0.out.2 (by omega) (by omega)
        · exact Around_any _ mm X B1.out.1 B1.out.2 (by omega) (by omega))
      go_upto_region 9 with fail
      go_region_held_law (fun w' => w'.cell? ⟨b, o + k * 4, none⟩ = some (.int .i64 z0) ∧ w'.cell? ⟨b, o + k * 4 + 1, none⟩ = some (.int .i64 z1) ∧ w'.cell? ⟨b, o + k * 4 + 2, none⟩ = some (.int .i64 z2) ∧ w'.cell? ⟨b, o + k * 4 + 3, none⟩ = some (.int .i64 z3)) ((refine HSQ.out _ ?_; (repeat (first | (with_reducible exact K7.out) | (with_reducible exact Keeps.refl _ _) | (with_reducible apply Keeps.drewN) | (with_reducible apply Keeps.drew) | (with_reducible apply Keeps.alloc))); done))
        (first
        | (go_at_call 7; refine (HAW.out _ _ _ (by first | exact .inl rfl | exact .inr rfl | fail) (by first | exact .inl rfl | exact .inr rfl | fail)).mono ?_; rintro e wx ⟨rfl, rfl⟩)
        | (refine step_append_own_row rfl (.tmp 46) (.tmp 71) 29 rfl 33 i0 zz 5 56 Tryd.underlying29 hi hz0 hz1 hz2 hz3 (by decide) (fun b => W2.heap.size ≤ b) (fun _ => True) (.slice a k c) (.slice (some ⟨V.heap.size, 0, none⟩) 1 1) k _ (by simp [Act.eval, Act.put]) (HOW.out.keep (S := fun _ => False) (by repeat (first | (with_reducible exact Keeps.refl _ _) | (with_reducible apply Keeps.drewN) | (with_reducible apply Keeps.drew) | (with_reducible apply Keeps.alloc))) (fun _ _ _ h => h)) 1 [.int .i64 (around z0 60), .int .i64 (around z1 6), .int .i64 z2, .int .i64 z3, .slice sa sn sc] (by simp [Act.eval, Act.put]) (src_blk (cs := #[.int .i64 (around z0 60), .int .i64 (around z1 6), .int .i64 z2, .int .i64 z3, .slice sa sn sc]) (T := 33) (by (repeat (first | (with_reducible apply blk_drewN) | (with_reducible apply blk_drew) | (with_reducible refine blk_new' _ _ _ _ ?_) | (with_reducible apply blk_alloc))); (first | (with_reducible rfl) | (simp; done) | (simp; omega))) 1 5 rfl (by decide)) (by intro u hu; simp at hu; rcases hu with rfl | rfl | rfl | rfl | rfl <;> rfl) (by simp [maxLen]; omega) (by omega) ?_; intro a7 c7 w7 hown7 hk7; have K7 : Hd (Keeps (fun b => W2.heap.size ≤ b) V w7) := hid (Keeps.trans (S := fun b => W2.heap.size ≤ b) (by repeat (first | (with_reducible exact Keeps.refl _ _) | (with_reducible apply Keeps.drewN) | (with_reducible apply Keeps.drew) | (with_reducible apply Keeps.alloc))) hk7)))
      all_goals
        have HO7 : Hd (Own (fun b => W2.heap.size ≤ b) w7 33 5 (.slice a7 (k + 1) c7) (k + 1) (ftC (.slice sa sn sc) (fts ++ [⟨around z0 60, around z1 6, z2, z3, S⟩]))) := hid (by
          have e : ftC (.slice sa sn sc) (fts ++ [⟨around z0 60, around z1 6, z2, z3, S⟩]) = ftC (.slice sa sn sc) fts ++ [.int .i64 (around z0 60), .int .i64 (around z1 6), .int .i64 z2, .int .i64 z3, .slice sa sn sc] := by unfold ftC; rw [List.flatMap_append]; rfl
          rw [e]
          exact hown7.mono (fun b _ h => by rcases h with h | h; exact h; (try simp at h); omega))
        have HK7 : Hd (Keeps (fun _ => False) W2 w7) := hid (HKR.out.trans' K7.out (fun i hi h => by omega))
        have HL7 : Hd ((fts ++ [(⟨around z0 60, around z1 6, z2, z3, S⟩ : Li.Ft)]).length = k + 1) := hid (by rw [List.length_append, HLN.out]; rfl)
        have HF7 : Hd (∀ f ∈ fts ++ [(⟨around z0 60, around z1 6, z2, z3, S⟩ : Li.Ft)], f.fg = S) := hid (fun f hf => by rcases List.mem_append.1 hf with h | h; exact HFG.out f h; rw [List.mem_singleton.1 h])
        clear hown7 hk7
        go_wp2
        go_roundw
        case rel => exact ⟨k + 1, a7, c7, _, rfl, by go_num, by omega, by omega, HL7, HF7, HO7, HK7⟩
        case measure => simp [intOf]; omega
    · have HKV : Hd (Keeps (fun _ => False) w V) := hid (HK2.out.trans HKR.out)
      have HNV : Hd (NibF V) := hid (Cr.Nib.keep HN2.out HKR.out (fun h => h))
      have HFO : Hd (FtsOk fts) := hid ⟨by rw [HLN.out]; exact hk40, fun f hf => (by rw [HFG.out f hf]; exact HS8.out), fun f hf => (by rw [HFG.out f hf]; have := HSL.out; omega), fun f hf _ => (by rw [HFG.out f hf]; exact HIN.out)⟩
      have HFS : Hd (Li.Fts (fun b => b < V.heap.size) V (.slice a k c) fts) := hid (by
        have hr := HOW.out.row
        have h2 := HLN.out
        subst h2
        exact fts_of (hr.mono (fun b hb _ => hb)) ((HS2.out.keep HKR.out (fun _ _ _ h => h)).mono (fun b hb _ => hb)) HFG.out)
      have HC2 : Hd (∀ (z : Int) (X : World), 50 ≤ z → z ≤ 255 → Keeps (fun _ => False) V X → Calls Tryd.prog 6 #[.slice va ln vc, .int .i64 z, .slice a k c] X fun e w' => e = .returned (.bool true) ∧ Keeps (fun _ => False) X w') := hid (fun z X g1 g2 hX => by
        have h2 := HLN.out
        subst h2
        exact HCAR.out z fts a c X (by omega) (HL1.out (by omega)) g1 g2 (HKV.out.trans hX) HFO.out ((Li.Fts.keepT HFS.out hX (fun _ _ _ h => h)) |> fun h => Li.Fls.mono h (fun b hb _ => hb)))
      clear HFS HFO HOW HFG HLN HCAR HL1 HKR HK2 HN2 HS2 HEL
      have hws : IntKind.i64.wrap ((n1 : Nat) : Int) = n1 := IntWalk.i64_in _ (by omega)
      rcases Nat.lt_or_ge k m with h1 | h1
      · obtain rfl : k = 40 := by omega
        have k1 : ((40 : Nat) : Int) < m := by omega
        have k2 : (40 : Int) < m := by omega
        clear hkm
        rcases Nat.lt_or_ge 50 n1 with h5 | h5
        · have m1 : (50 : Int) < n1 := by omega
          have m2 : max (50 : Int) n1 = n1 := by omega
          go_wp2_with fail
          refine (HC2.out (n1 : Int) _ (by omega) (by omega) (Keeps.refl _ _)).mono ?_
          rintro e W8 ⟨rfl, hk8⟩
          have HNP : Hd (NibF W8) := hid (Cr.Nib.keep HNV.out hk8 (fun h => h))
          have HKP : Hd (Keeps (fun _ => False) w W8) := hid (HKV.out.trans hk8)
          clear hk8 HC2
          have v1 : (convert 22 22 (.slice (some ⟨W8.heap.size, 0, none⟩) 7 7)).run Tryd.prog (W8.alloc (.cells #[.int .u8 112, .int .u8 101, .int .u8 114, .int .u8 105, .int .u8 103, .int .u8 101, .int .u8 101] 5)) = .ok (.slice (some ⟨W8.heap.size, 0, none⟩) 7 7) (W8.alloc (.cells #[.int .u8 112, .int .u8 101, .int .u8 114, .int .u8 105, .int .u8 103, .int .u8 101, .int .u8 101] 5 (7, 8))) := Cr.conv_lit W8 _ 7 7
          go_wp2_with fail
          refine (perigee_any _ _ (Cr.Nib.keep HNP.out (keeps_alloc (fun _ => False) _ _) (fun h => h)) (Cr.lit_slm W8 [112, 101, 114, 105, 103, 101, 101] (7, 8) (by decide))).mono ?_
          rintro e W9 ⟨rfl, hk9⟩
          have HKF : Hd (Keeps (fun _ => False) w W9) := hid ((HKP.out.alloc _).trans hk9)
          clear hk9 v1
          go_wp2
          go_ret
          exact ⟨rfl, HKF.out⟩
        · have m1 : ¬ (50 : Int) < n1 := by omega
          have m2 : max (50 : Int) n1 = 50 := by omega
          go_wp2_with fail
          refine (HC2.out 50 _ (by omega) (by omega) (Keeps.refl _ _)).mono ?_
          rintro e W8 ⟨rfl, hk8⟩
          have HNP : Hd (NibF W8) := hid (Cr.Nib.keep HNV.out hk8 (fun h => h))
          have HKP : Hd (Keeps (fun _ => False) w W8) := hid (HKV.out.trans hk8)
          clear hk8 HC2
          have v1 : (convert 22 22 (.slice (some ⟨W8.heap.size, 0, none⟩) 7 7)).run Tryd.prog (W8.alloc (.cells #[.int .u8 112, .int .u8 101, .int .u8 114, .int .u8 105, .int .u8 103, .int .u8 101, .int .u8 101] 5)) = .ok (.slice (some ⟨W8.heap.size, 0, none⟩) 7 7) (W8.alloc (.cells #[.int .u8 112, .int .u8 101, .int .u8 114, .int .u8 105, .int .u8 103, .int .u8 101, .int .u8 101] 5 (7, 8))) := Cr.conv_lit W8 _ 7 7
          go_wp2_with fail
          refine (perigee_any _ _ (Cr.Nib.keep HNP.out (keeps_alloc (fun _ => False) _ _) (fun h => h)) (Cr.lit_slm W8 [112, 101, 114, 105, 103, 101, 101] (7, 8) (by decide))).mono ?_
          rintro e W9 ⟨rfl, hk9⟩
          have HKF : Hd (Keeps (fun _ => False) w W9) := hid ((HKP.out.alloc _).trans hk9)
          clear hk9 v1
          go_wp2
          go_ret
          exact ⟨rfl, HKF.out⟩
      · obtain rfl : k = m := by omega
        have k1 : ¬ ((k : Int) < k) := by omega
        clear hkm
        rcases Nat.lt_or_ge 50 n1 with h5 | h5
        · have m1 : (50 : Int) < n1 := by omega
          have m2 : max (50 : Int) n1 = n1 := by omega
          go_wp2_with fail
          refine (HC2.out (n1 : Int) _ (by omega) (by omega) (Keeps.refl _ _)).mono ?_
          rintro e W8 ⟨rfl, hk8⟩
          have HNP : Hd (NibF W8) := hid (Cr.Nib.keep HNV.out hk8 (fun h => h))
          have HKP : Hd (Keeps (fun _ => False) w W8) := hid (HKV.out.trans hk8)
          clear hk8 HC2
          have v1 : (convert 22 22 (.slice (some ⟨W8.heap.size, 0, none⟩) 7 7)).run Tryd.prog (W8.alloc (.cells #[.int .u8 112, .int .u8 101, .int .u8 114, .int .u8 105, .int .u8 103, .int .u8 101, .int .u8 101] 5)) = .ok (.slice (some ⟨W8.heap.size, 0, none⟩) 7 7) (W8.alloc (.cells #[.int .u8 112, .int .u8 101, .int .u8 114, .int .u8 105, .int .u8 103, .int .u8 101, .int .u8 101] 5 (7, 8))) := Cr.conv_lit W8 _ 7 7
          go_wp2_with fail
          refine (perigee_any _ _ (Cr.Nib.keep HNP.out (keeps_alloc (fun _ => False) _ _) (fun h => h)) (Cr.lit_slm W8 [112, 101, 114, 105, 103, 101, 101] (7, 8) (by decide))).mono ?_
          rintro e W9 ⟨rfl, hk9⟩
          have HKF : Hd (Keeps (fun _ => False) w W9) := hid ((HKP.out.alloc _).trans hk9)
          clear hk9 v1
          go_wp2
          go_ret
          exact ⟨rfl, HKF.out⟩
        · have m1 : ¬ (50 : Int) < n1 := by omega
          have m2 : max (50 : Int) n1 = 50 := by omega
          go_wp2_with fail
          refine (HC2.out 50 _ (by omega) (by omega) (Keeps.refl _ _)).mono ?_
          rintro e W8 ⟨rfl, hk8⟩
          have HNP : Hd (NibF W8) := hid (Cr.Nib.keep HNV.out hk8 (fun h => h))
          have HKP : Hd (Keeps (fun _ => False) w W8) := hid (HKV.out.trans hk8)
          clear hk8 HC2
          have v1 : (convert 22 22 (.slice (some ⟨W8.heap.size, 0, none⟩) 7 7)).run Tryd.prog (W8.alloc (.cells #[.int .u8 112, .int .u8 101, .int .u8 114, .int .u8 105, .int .u8 103, .int .u8 101, .int .u8 101] 5)) = .ok (.slice (some ⟨W8.heap.size, 0, none⟩) 7 7) (W8.alloc (.cells #[.int .u8 112, .int .u8 101, .int .u8 114, .int .u8 105, .int .u8 103, .int .u8 101, .int .u8 101] 5 (7, 8))) := Cr.conv_lit W8 _ 7 7
          go_wp2_with fail
          refine (perigee_any _ _ (Cr.Nib.keep HNP.out (keeps_alloc (fun _ => False) _ _) (fun h => h)) (Cr.lit_slm W8 [112, 101, 114, 105, 103, 101, 101] (7, 8) (by decide))).mono ?_
          rintro e W9 ⟨rfl, hk9⟩
          have HKF : Hd (Keeps (fun _ => False) w W9) := hid ((HKP.out.alloc _).trans hk9)
          clear hk9 v1
          go_wp2
          go_ret
          exact ⟨rfl, HKF.out⟩
end Go.Proofs.YtgfekgceeigdiaaDoor
