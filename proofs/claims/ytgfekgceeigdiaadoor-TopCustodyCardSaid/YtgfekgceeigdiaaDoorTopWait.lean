/- Custody: TopI, TopK, TopJ: walks and plain facts. -/
import Derived.Test.YtgfekgceeigdiaaDoorTopFind
import Derived.RangeFuncNested
import Derived.RangeFuncBound
import Derived.RangeFuncLeaves
import Derived.Shelf.Abstract
import Derived.WalkKit
import Derived.OwnWalkIn
import Derived.TacticsInMore
import Derived.LoopNIn
import Derived.LoopIn
import Derived.Test.YtgfekgceeigdiaaDoorTwoAll
import Derived.OrdersIn
import Derived.RangeFuncCalls
import Derived.Test.YtgfekgceeigdiaaDoorFileTwo
import Derived.Deep.CutRange
namespace Go.Proofs.YtgfekgceeigdiaaDoor
open Go.RowKit Go.Shelf
attribute [local go_sem] Oper.semAt_some
/-- a bundle with the slice of its bytes -/
abbrev By := Bu × Option Addr × Nat
/-- the cells of a row of bundles, with their slices -/
def ByC (K : Nat → Prop) (w : World) (a : Option Addr) (L : List By) : Prop := ∀ k y, L[k]? = some y → ∃ b o, a = some ⟨b, o, none⟩ ∧ K b ∧ b < w.heap.size ∧ w.cell? ⟨b, o + k * 8, none⟩ = some (.int .i64 y.1.i) ∧ w.cell? ⟨b, o + k * 8 + 1, none⟩ = some (.int .i64 y.1.f) ∧ w.cell? ⟨b, o + k * 8 + 2, none⟩ = some (.int .i64 y.1.t) ∧ w.cell? ⟨b, o + k * 8 + 3, none⟩ = some (.int .i64 y.1.g) ∧ w.cell? ⟨b, o + k * 8 + 4, none⟩ = some (.int .i64 y.1.o) ∧ w.cell? ⟨b, o + k * 8 + 5, none⟩ = some (.int .i64 y.1.a) ∧ w.cell? ⟨b, o + k * 8 + 6, none⟩ = some (.int .u32 (y.1.s : Int)) ∧ w.cell? ⟨b, o + k * 8 + 7, none⟩ = some (.slice y.2.1 y.1.d.length y.2.2) ∧ Sl K w (.slice y.2.1 y.1.d.length y.2.2) (u8s y.1.d)
theorem ByC.keep {K S : Nat → Prop} {w w' : World} {a : Option Addr} {L : List By} (h : ByC K w a L) (hk : Keeps S w w') (hd : ∀ b, b < w.heap.size → K b → ¬ S b) : ByC K w' a L := fun k y hy => by
  obtain ⟨b, o, h1, h2, h3, c0, c1, c2, c3, c4, c5, c6, c7, hs⟩ := h k y hy
  have hn := hd b h3 h2
  exact ⟨b, o, h1, h2, Nat.lt_of_lt_of_le h3 hk.size, keep_cell hk hn c0, keep_cell hk hn c1, keep_cell hk hn c2, keep_cell hk hn c3, keep_cell hk hn c4, keep_cell hk hn c5, keep_cell hk hn c6, keep_cell hk hn c7, hs.keep hk hd⟩
theorem byC_of {K : Nat → Prop} {w : World} {a : Option Addr} {n c : Nat} {l : List Bu} (h : Bus K w (.slice a n c) l) : ∃ L : List By, L.map (·.1) = l ∧ ByC K w a L := by
  by_cases hl : 0 < l.length
  · obtain ⟨b, o, rfl, hK, hb, hc⟩ := bus_cells h hl
    have hx : ∀ k : Nat, ∃ p : Option Addr × Nat, ∀ x, l[k]? = some x → w.cell? ⟨b, o + k * 8 + 7, none⟩ = some (.slice p.1 x.d.length p.2) ∧ Sl K w (.slice p.1 x.d.length p.2) (u8s x.d) := fun k => by
      cases hk : l[k]? with
      | none => exact ⟨(none, 0), fun x hx => by cases hx⟩
      | some x =>
        obtain ⟨_, _, _, _, _, _, _, ad, cd, h1, h2⟩ := hc k x hk
        exact ⟨(ad, cd), fun y hy => by injection hy with hy; subst hy; exact ⟨h1, h2⟩⟩
    obtain ⟨f, hf⟩ := Classical.axiomOfChoice hx
    refine ⟨l.zipIdx.map (fun p => (p.1, f p.2)), ?_, fun k y hy => ?_⟩
    · rw [List.map_map]
      exact List.zipIdx_map_fst ..
    · rw [List.getElem?_map, List.getElem?_zipIdx] at hy
      cases hk : l[k]? with
      | none => rw [hk] at hy; simp at hy
      | some x =>
        rw [hk] at hy
        simp at hy
        subst hy
        obtain ⟨c0, c1, c2, c3, c4, c5, c6, -⟩ := hc k x hk
        obtain ⟨c7, c8⟩ := hf k x hk
        exact ⟨b, o, rfl, hK, hb, c0, c1, c2, c3, c4, c5, c6, c7, c8⟩
  · obtain rfl := List.eq_nil_of_length_eq_zero (by omega : l.length = 0)
    exact ⟨[], rfl, fun k y hy => by simp at hy⟩
theorem grown0 {w w' : World} (h : Keeps (fun _ => False) w w') : w.grownBy w' none := ⟨h.os, h.tape, h.output, h.size, fun k hk _ => h.block k hk (fun h => h)⟩
theorem fil_yes {L : List By} {k : Nat} {y : By} {p : By → Bool} (h : L[k]? = some y) (hk : p y = true) : (L.take (k + 1)).filter p = (L.take k).filter p ++ [y] := by
  rw [List.take_add_one, h, List.filter_append]; simp [hk]
theorem fil_no {L : List By} {k : Nat} {y : By} {p : By → Bool} (h : L[k]? = some y) (hk : p y = false) : (L.take (k + 1)).filter p = (L.take k).filter p := by
  rw [List.take_add_one, h, List.filter_append]; simp [hk]
set_option maxRecDepth 100000 in set_option maxHeartbeats 1000000 in
theorem wait1_any (K : Nat → Prop) (c0 c1 c2 c3 c4 c5 : Value) (i : Int) (sv : Value) (Bs : Nat) (q : Value) (ab : Value) (vp : Value) (vs : Value) (ps : List Int) (w : World) (hB : Blk w Bs #[q, ab, vp, vs] 44) (hp : Sl K w vp (i64s ps)) (hl : ps.length ≤ 1000) (hs : ps.Pairwise (· < ·)) :
    Calls Tryd.prog 73 #[.agg #[.int .i64 i, c0, c1, c2, c3, c4, c5, sv], .pointer (some ⟨Bs, 0, none⟩)] w fun e w' => e = .returned (.bool (ps.contains i)) ∧ Keeps (fun _ => False) w w' := by
  obtain ⟨ap, cp, rfl, -⟩ := hp.ints
  have HP := hid hp; have HS := hid hs; have HB := hid hB
  obtain ⟨r, hr⟩ : ∃ r, ps.contains i = r := ⟨_, rfl⟩
  have HR := hid hr
  rw [hr]
  clear hp hs hB hr
  obtain ⟨np, hnp⟩ : ∃ n, ps.length = n := ⟨_, rfl⟩
  have HNP := hid hnp
  rw [hnp] at HP HB hl
  clear hnp
  go_enter Tryd.func73, Tryd.ntmps73
  go_upto_region 1 with fail
  generalize hW : World.alloc w _ = W1
  have KS : Hd (Keeps (fun _ => False) w W1) := hid (by rw [← hW]; exact (Keeps.alloc (Keeps.refl (fun _ => False) w) _))
  have HP' : Hd (Sl K W1 (.slice ap np cp) (i64s ps)) := hid (HP.out.keep KS.out (fun _ _ _ h => h))
  have HB' : Hd (Blk W1 Bs #[q, ab, (.slice ap np cp), vs] 44) := hid (by rw [← hW]; exact (blk_alloc HB.out _))
  have BX : Hd (Blk W1 w.heap.size #[(.int .i64 i), c0, c1, c2, c3, c4, c5, sv] 59) := hid (by rw [← hW]; exact (blk_new _ _ _))
  clear HP HB
  have HP := HP'
  clear HP'
  have HB := HB'
  clear HB'
  have HK : Hd (Keeps (fun _ => False) w W1) := hid KS.out
  have z_W1 : w.heap.size + 1 ≤ W1.heap.size := by rw [← hW]; simp
  clear hW KS
  have o_HB_2 : W1.cell? ⟨Bs, 2, none⟩ = some ((.slice ap np cp)) := blk_cell HB.out 2
  have o_BX_0 : W1.cell? ⟨w.heap.size, 0, none⟩ = some ((.int .i64 i)) := blk_cell BX.out 0
  go_wp2_with fail
  have hcc := has_any _ _ ps i W1 HP.out (by rw [HNP.out]; omega) (sorted_le HS.out)
  rw [HR.out] at hcc
  refine hcc.mono ?_
  clear hcc
  rintro e wx ⟨rfl, hdr⟩
  have hk := drawn_keeps (fun _ => False) hdr
  clear hdr
  obtain ⟨W2, rfl⟩ : ∃ V, V = wx := ⟨_, rfl⟩
  clear o_HB_2 o_BX_0
  have HP' : Hd (Sl K W2 (.slice ap np cp) (i64s ps)) := hid (HP.out.keep hk (fun _ _ _ h => h))
  have HB' : Hd (Blk W2 Bs #[q, ab, (.slice ap np cp), vs] 44) := hid (blk_keep HB.out hk (fun h => h))
  have BX' : Hd (Blk W2 w.heap.size #[(.int .i64 i), c0, c1, c2, c3, c4, c5, sv] 59) := hid (blk_keep BX.out hk (fun h => h))
  clear HP HB BX
  have HP := HP'
  clear HP'
  have HB := HB'
  clear HB'
  have BX := BX'
  clear BX'
  have HK' : Hd (Keeps (fun _ => False) w W2) := hid (HK.out.trans hk)
  clear HK
  have HK := HK'
  clear HK'
  have z_W2 := hk.size
  clear hk
  go_wp2
  go_ret
  exact ⟨rfl, HK.out⟩
theorem run_store_func {P : Program} {w : World} {a : Addr} {fn : Fn} {ts : Array Value} {lb : Array Value} {m : Mode} : (store a (.func fn ts lb) m).run P w = stored P w a (.func fn ts lb) m := run_store P w a _ m rfl
attribute [local go_sem] run_store_func
set_option maxRecDepth 100000 in set_option maxHeartbeats 1000000 in
theorem waiting_any (c0 c1 c2 c3 : Value) (w : World) :
    Calls Tryd.prog 54 #[.agg #[c0, c1, c2, c3]] w fun e w' => e = .returned (.func (.func 74) #[] #[.pointer (some ⟨w.heap.size, 0, none⟩), .pointer (some ⟨w.heap.size + 1, 0, none⟩)]) ∧
      w' = (w.alloc (.cells #[c0, c1, c2, c3] 44)).alloc (.cells #[.func (.func 73) #[] #[.pointer (some ⟨w.heap.size, 0, none⟩)]] 143) := by
  go_enter Tryd.func54, Tryd.ntmps54
  go_wp2
  go_ret
  exact ⟨rfl, rfl⟩
def nps (ps : List Int) (y : By) : Bool := !(ps.contains y.1.i)
set_option maxRecDepth 100000 in set_option maxHeartbeats 1000000 in
theorem wait2_in (n : Nat) (hn : 1 ≤ n) (l Bs Bp n₀ : Nat) (q vs : Value) (ab ap : Option Addr) (cb cp m : Nat) (L : List By) (ps : List Int) (J Jx : List By → World → Prop)
    (hY : ∀ pre y W, y ∈ L → J pre W → pre.length < L.length → YieldAt Fence.wide (n - 1) Tryd.prog l #[.agg #[.int .i64 y.1.i, .int .i64 y.1.f, .int .i64 y.1.t, .int .i64 y.1.g, .int .i64 y.1.o, .int .i64 y.1.a, .int .u32 (y.1.s : Int), .slice y.2.1 y.1.d.length y.2.2]] W fun e W' =>
      (e = .returned (.bool true) ∧ J (pre ++ [y]) W' ∧ Below n₀ W W') ∨ (e = .returned (.bool false) ∧ Jx (pre ++ [y]) W'))
    (W : World) (hJ : AbidesFrom W.heap.size J) (hn₀ : n₀ ≤ W.heap.size) (hBs : Blk W Bs #[q, .slice ab m cb, .slice ap ps.length cp, vs] 44) (hBp : Blk W Bp #[.func (.func 73) #[] #[.pointer (some ⟨Bs, 0, none⟩)]] 143)
    (hs0 : Bs < n₀) (hp0 : Bp < n₀) (hI : ByC (fun k => k < n₀) W ab L) (hm : L.length = m) (hml : m ≤ 1000) (hP : Sl (fun k => k < n₀) W (.slice ap ps.length cp) (i64s ps)) (hpl : ps.length ≤ 1000) (hps : ps.Pairwise (· < ·)) (h0 : J [] W) :
    CallsIn Fence.wide n Tryd.prog 74 #[.func (.yield l) #[] #[], .pointer (some ⟨Bs, 0, none⟩), .pointer (some ⟨Bp, 0, none⟩)] W fun e W' => (∃ v, e = .returned v) ∧
      ((∃ ys, ys = L.filter (nps ps) ∧ J ys W') ∨ (∃ pre, (∃ k, k ≤ L.length ∧ pre = (L.take k).filter (nps ps)) ∧ Jx pre W')) := by
  have HI := hid hI; have HP := hid hP; have HPS := hid hps; have HL := hid hm
  have e1 : W.cell? ⟨Bs, 1, none⟩ = some (.slice ab m cb) := blk_cell hBs 1
  have HBs := hid hBs; have HBp := hid hBp
  rw [hm] at hY ⊢
  obtain ⟨np, hnp⟩ : ∃ n, ps.length = n := ⟨_, rfl⟩
  have HNP := hid hnp
  rw [hnp] at HP HBs hpl
  clear hI hP hps hBs hBp hm hnp
  refine callsIn_of_wp Tryd.func74 rfl trivial ?_ rfl
  simp only [Tryd.ntmps74, List.size_toArray, List.length_cons, List.length_nil, Nat.reduceAdd, Nat.reduceSub, Array.replicate_succ, Array.replicate_zero, List.push_toArray, List.append_toArray, List.nil_append, List.cons_append]
  gi_wp2
  gi_loopw [9] (fun i wr => ∃ k : Nat, k ≤ m ∧ i = .int .i64 k ∧ J ((L.take k).filter (nps ps)) wr ∧ Hd (Below n₀ W wr)) (fun i _ => m - (intOf i).toNat)
  case atStart => exact ⟨0, Nat.zero_le _, rfl, h0, hid (Below.refl _ _)⟩
  case round =>
    obtain ⟨V, rfl⟩ : ∃ V, V = wr := ⟨_, rfl⟩
    obtain ⟨k, hk, rfl, hJs, HNX⟩ := hrel
    by_cases hlt : k < m
    · have k1 : (k : Int) < m := by omega
      have k2 : (0 : Int) ≤ k := by omega
      obtain ⟨y, hy⟩ : ∃ y, L[k]? = some y := ⟨L[k]'(by rw [HL.out]; exact hlt), List.getElem?_eq_getElem _⟩
      have HY := hid hy
      have hKW : Keeps (fun k => n₀ ≤ k) W V := Keeps.of_below HNX.out
      have HIV := hid (HI.out.keep hKW (fun b _ h1 h2 => by omega))
      have HPV := hid (HP.out.keep hKW (fun b _ h1 h2 => by omega))
      have HBsV := hid (blk_keep HBs.out hKW (fun h => by omega)); have HBpV := hid (blk_keep HBp.out hKW (fun h => by omega))
      obtain ⟨bb, o, rfl, hb1, hb2, f0, f1, f2, f3, f4, f5, f6, f7, -⟩ := HIV.out k y hy
      have zw := HNX.out.size
      have p0 : ∀ o, (V.alloc o).cell? ⟨Bp, 0, none⟩ = some (.func (.func 73) #[] #[.pointer (some ⟨Bs, 0, none⟩)]) := fun o => blk_cell (blk_alloc HBpV.out o) 0
      clear hKW hy e1
      gi_wp2_with fail
      have HKA : Hd (Keeps (fun _ => False) V (V.alloc (.cells #[.int .i64 y.1.i, .int .i64 y.1.f, .int .i64 y.1.t, .int .i64 y.1.g, .int .i64 y.1.o, .int .i64 y.1.a, .int .u32 (y.1.s : Int), .slice y.2.1 y.1.d.length y.2.2] 59))) := hid (keeps_alloc _ _ _)
      have HX : Hd (Blk (V.alloc (.cells #[.int .i64 y.1.i, .int .i64 y.1.f, .int .i64 y.1.t, .int .i64 y.1.g, .int .i64 y.1.o, .int .i64 y.1.a, .int .u32 (y.1.s : Int), .slice y.2.1 y.1.d.length y.2.2] 59)) V.heap.size #[.int .i64 y.1.i, .int .i64 y.1.f, .int .i64 y.1.t, .int .i64 y.1.g, .int .i64 y.1.o, .int .i64 y.1.a, .int .u32 (y.1.s : Int), .slice y.2.1 y.1.d.length y.2.2] 59) := hid (blk_new _ _ _)
      have hcc := wait1_any _ (.int .i64 y.1.f) (.int .i64 y.1.t) (.int .i64 y.1.g) (.int .i64 y.1.o) (.int .i64 y.1.a) (.int .u32 (y.1.s : Int)) y.1.i (.slice y.2.1 y.1.d.length y.2.2) Bs q (.slice (some ⟨bb, o, none⟩) m cb) (.slice ap np cp) vs ps _ (blk_keep HBsV.out HKA.out (fun h => h)) (HPV.out.keep HKA.out (fun _ _ _ h => h)) (by rw [HNP.out]; exact hpl) HPS.out
      have HCC := hid hcc
      clear hcc f0 f1 f2 f3 f4 f5 f6 f7 p0
      refine ⟨trivial, (callsIn_wide.2 HCC.out).mono ?_⟩
      clear HCC
      rintro e V2 ⟨rfl, hk2⟩
      have HK2 : Hd (Keeps (fun _ => False) V V2) := hid (HKA.out.trans hk2)
      have HX2 := hid (blk_keep HX.out hk2 (fun h => h))
      have hJ2 : J ((L.take k).filter (nps ps)) V2 := hJ _ _ _ none hJs (grown0 HK2.out) (by simp)
      have HB2 : Hd (Below n₀ W V2) := hid (HNX.out.trans (HK2.out.below (by omega) (fun _ _ h => h)))
      clear hk2 HKA HX hJs
      by_cases hps2 : ps.contains y.1.i = true
      · have hkey : nps ps y = false := by unfold nps; rw [hps2]; rfl
        rw [hps2]
        gi_wp2
        refine ⟨fun _ h => (by cases h), ?_⟩
        gi_wp2
        go_roundw
        case rel => exact ⟨k + 1, by omega, by simp, by rw [fil_no HY.out hkey]; exact hJ2, HB2⟩
        case measure => simp [intOf]; omega
      · have hps3 : ps.contains y.1.i = false := by simpa using hps2
        have hkey : nps ps y = true := by unfold nps; rw [hps3]; rfl
        rw [hps3]
        obtain ⟨fn, tmps, assign, body, hyy, hR⟩ := hY _ y V2 (List.mem_of_getElem? HY.out) hJ2 (by have h1 := List.length_filter_le (nps ps) (L.take k); rw [List.length_take] at h1; omega)
        have g0 := blk_cell HX2.out 0
        have g1 := blk_cell HX2.out 1
        have g2 := blk_cell HX2.out 2
        have g3 := blk_cell HX2.out 3
        have g4 := blk_cell HX2.out 4
        have g5 := blk_cell HX2.out 5
        have g6 := blk_cell HX2.out 6
        have g7 := blk_cell HX2.out 7
        gi_wp2
        refine hR.mono ?_
        rintro e W3 (⟨rfl, hJ3, hk3⟩ | ⟨rfl, hJx3⟩)
        · gi_wp2
          go_roundw
          case rel => exact ⟨k + 1, by omega, by simp, by rw [fil_yes HY.out hkey]; exact hJ3, hid (HB2.out.trans hk3)⟩
          case measure => simp [intOf]; omega
        · gi_wp2
          refine bodyPost_ret (results_none rfl _ _ _) rfl ?_
          exact ⟨⟨_, rfl⟩, .inr ⟨_, ⟨k + 1, by omega, (fil_yes HY.out hkey).symm⟩, hJx3⟩⟩
    · obtain rfl : k = m := by omega
      gi_wp2
      go_end0
      exact ⟨⟨_, rfl⟩, .inl ⟨_, by rw [← HL.out, List.take_length], hJs⟩⟩
end Go.Proofs.YtgfekgceeigdiaaDoor
namespace Go.Proofs.YtgfekgceeigdiaaDoor
open Go.RowKit
section
variable {P : Program} {Q : Exit → Act → World → Prop} {ops : Array Oper} {F : Fence} {n : Nat}
theorem wpAnyIn_J (J : Array Bool → Act → World → Prop)
    (hs : ∀ listed a w, listed.size = ops.size → J listed a w → ∀ i ∈ Region.ready .any ops listed, wpOpIn F n P ops Q i (fun a' w' => J (listed.setIfInBounds i true) a' w') a w)
    (he : ∀ listed a w, listed.size = ops.size → J listed a w → Region.ready .any ops listed = [] → Q .normal a w) :
    ∀ (fuel : Nat) (listed : Array Bool) (a : Act) (w : World), listed.size = ops.size → unlst listed ≤ fuel → J listed a w → wpAnyIn F n P .any ops Q fuel listed a w := by
  intro fuel
  induction fuel with
  | zero =>
    intro listed a w hsz hu hj
    have hr : Region.ready .any ops listed = [] := by
      apply List.eq_nil_iff_forall_not_mem.2
      intro i hi
      have := unlst_set (mem_ready.1 hi).1
      omega
    exact ⟨hr, he _ _ _ hsz hj hr⟩
  | succ fuel ih =>
    intro listed a w hsz hu hj
    refine ⟨he _ _ _ hsz hj, fun i hi => ?_⟩
    have hun := unlst_set (mem_ready.1 hi).1
    have h1 := hs _ _ _ hsz hj i hi
    unfold wpOpIn at h1 ⊢
    cases ho : ops[i]? with
    | none => simp only [ho] at h1 ⊢; exact ih _ _ _ (by simpa using hsz) (by omega) h1
    | some o =>
      simp only [ho] at h1 ⊢
      split
      · rename_i hw
        simp only [hw, if_true] at h1
        exact Oper.wpIn_mono (fun a' w' hj => ih _ _ _ (by simpa using hsz) (by omega) hj) h1
      · rename_i hw
        simp only [hw] at h1
        exact ⟨h1.1, ih _ _ _ (by simpa using hsz) (by omega) h1.2⟩
theorem wpIn_region_J {id : Nat} {a : Act} {w : World} (hm : P.follows .mixedOrders = true) (J : Array Bool → Act → World → Prop) (h0 : J (Array.replicate ops.size false) a w.drew)
    (hs : ∀ listed a w, listed.size = ops.size → J listed a w → ∀ i ∈ Region.ready .any ops listed, wpOpIn F n P ops Q i (fun a' w' => J (listed.setIfInBounds i true) a' w') a w)
    (he : ∀ listed a w, listed.size = ops.size → J listed a w → Region.ready .any ops listed = [] → Q .normal a w) : (Code.region id ops true).wpIn F n P Q a w :=
  wpIn_region_any hm (wpAnyIn_J J hs he _ _ _ _ (by simp) (by simp [unlst]) h0)
theorem wpOpIn_ran {l : List Oper} {lp i : Nat} {o : Oper} {a : Act} {w w' : World} {v : Value} {K : Act → World → Prop} (ho : l[i]? = some o) (hg : o.guard = none) (hd : ∀ c, o.op ≠ .defer c) (h : (execOp a.eval o).run P w = .ok (.value v) w') (hK : K (a.put o.dst v) w') : wpOpIn (Fence.wide.inRound lp) n P l.toArray Q i K a w := by
  unfold wpOpIn
  have ho' : l.toArray[i]? = some o := by rw [List.getElem?_toArray]; exact ho
  simp only [ho']
  rw [if_pos (by simp [Region.wanted, hg])]
  refine ⟨fun f _ => trivial, ?_⟩
  rw [Oper.semAt_eq _ _ _ hd, h]
  exact hK
theorem wpOpIn_call {l : List Oper} {lp i : Nat} {o : Oper} {a : Act} {w : World} {K : Act → World → Prop} {f : FuncId} {args : Array Value} (ho : l[i]? = some o) (hg : o.guard = none) (hd : ∀ c, o.op ≠ .defer c) (h : (execOp a.eval o).run P w = .ok (.enter f args) w) (hc : Calls P f args w fun e w' => ∃ v, e = .returned v ∧ K (a.put o.dst v) w') : wpOpIn (Fence.wide.inRound lp) n P l.toArray Q i K a w := by
  unfold wpOpIn
  have ho' : l.toArray[i]? = some o := by rw [List.getElem?_toArray]; exact ho
  simp only [ho']
  rw [if_pos (by simp [Region.wanted, hg])]
  refine ⟨fun f _ => trivial, ?_⟩
  rw [Oper.semAt_eq _ _ _ hd, h]
  refine ⟨fun h => (by cases h), (CallsIn.inRound lp (callsIn_wide.2 hc)).mono ?_⟩
  rintro e w' ⟨v, rfl, hK⟩
  exact hK
theorem wpOpIn_imp {i : Nat} {a : Act} {w : World} {K K' : Act → World → Prop} (h : wpOpIn F n P ops Q i K a w) (hK : ∀ a w, K a w → K' a w) : wpOpIn F n P ops Q i K' a w := by
  unfold wpOpIn at *
  cases ho : ops[i]? with
  | none => simp only [ho] at h ⊢; exact hK _ _ h
  | some o =>
    simp only [ho] at h ⊢
    split
    · rename_i hw; simp only [hw, if_true] at h; exact Oper.wpIn_mono hK h
    · rename_i hw; simp only [hw] at h; exact ⟨h.1, hK _ _ h.2⟩
/-- a region that draws its order, its operations' values known, in slots one behind the other -/
structure VI (l : List Oper) (b : Nat) (vs : Nat → Value) (a0 : Act) (W0 : World) (L : Array Bool) (a : Act) (w : World) : Prop where
  kp : Keeps (fun _ => False) W0 w
  sz : a.tmps.size = a0.tmps.size
  df : a.defers = a0.defers
  fr : ∀ t, t < b ∨ b + l.length ≤ t → a.tmps[t]? = a0.tmps[t]?
  v : ∀ i, i < l.length → L.getD i false = true → a.tmps[b + i]? = some (vs i)
theorem wpIn_region_vals {l : List Oper} {id : Nat} {a0 : Act} {W0 : World} (hm : P.follows .mixedOrders = true) (b : Nat) (vs : Nat → Value) (hback : backB l.toArray = true) (hdst : ∀ (i : Nat) o, l[i]? = some o → o.dst = some (b + i)) (hsz : b + l.length ≤ a0.tmps.size)
    (hop : ∀ (i : Nat) o, l[i]? = some o → ∀ a w, Keeps (fun _ => False) W0 w → (∀ t, t < b ∨ b + l.length ≤ t → a.tmps[t]? = a0.tmps[t]?) → (∀ e ∈ o.after, Region.binds .any e = true → a.tmps[b + e.on]? = some (vs e.on)) →
      wpOpIn F n P l.toArray Q i (fun a' w' => a' = a.put o.dst (vs i) ∧ Keeps (fun _ => False) w w') a w)
    (T : Array Value) (hT : T.size = a0.tmps.size ∧ (∀ t, t < b ∨ b + l.length ≤ t → T[t]? = a0.tmps[t]?) ∧ ∀ i, i < l.length → T[b + i]? = some (vs i))
    (hend : ∀ w, Keeps (fun _ => False) W0 w → Q .normal { a0 with tmps := T } w) : (Code.region id l.toArray true).wpIn F n P Q a0 W0 := by
  refine wpIn_region_J hm (VI l b vs a0 W0) ⟨(Keeps.refl _ _).drew, rfl, rfl, fun _ _ => rfl, fun i _ h => by simp [Array.getD] at h⟩ ?_ ?_
  · intro listed a w hls h i hi
    obtain ⟨hun, o, ho, hdep⟩ := mem_ready.1 hi
    have hol : l[i]? = some o := by simpa using ho
    have hil : i < l.length := (List.getElem?_eq_some_iff.1 hol).1
    have hlsz : listed.size = l.length := by simpa using hls
    refine wpOpIn_imp (hop i o hol a w h.kp h.fr (fun e he hb => ?_)) ?_
    · have h1 := hdep e he hb
      have h2 : e.on < l.length := by
        rcases Nat.lt_or_ge e.on l.length with h3 | h3
        · exact h3
        · have : listed.getD e.on false = false := by simp [Array.getD, Nat.not_lt.2 (show listed.size ≤ e.on by omega)]
          rw [this] at h1; cases h1
      exact h.v e.on h2 h1
    · rintro a' w' ⟨rfl, hk⟩
      rw [hdst i o hol]
      have put_get : ∀ s, (a.put (some (b + i)) (vs i)).tmps[s]? = if b + i = s then (if s < a.tmps.size then some (vs i) else none) else a.tmps[s]? := fun s => by
        show (a.tmps.setIfInBounds (b + i) (vs i))[s]? = _
        rw [Array.getElem?_setIfInBounds]
        split
        · rename_i e; subst e; rfl
        · rfl
      refine ⟨h.kp.trans hk, ?_, h.df, fun t ht => ?_, fun j hj hL => ?_⟩
      · show (a.tmps.setIfInBounds (b + i) (vs i)).size = _
        rw [Array.size_setIfInBounds]; exact h.sz
      · rw [put_get, if_neg (by omega)]; exact h.fr t ht
      · rw [put_get]
        by_cases e : i = j
        · subst e; rw [if_pos rfl, if_pos (by rw [h.sz]; omega)]
        · rw [if_neg (by omega)]
          refine h.v j hj ?_
          have : (listed.setIfInBounds i true).getD j false = listed.getD j false := by
            simp only [Array.getD_eq_getD_getElem?, Array.getElem?_setIfInBounds, if_neg e]
          rw [← this]; exact hL
  · intro listed a w hls h hr
    have hall := all_listed hback hls hr
    have e : a = { a0 with tmps := T } := by
      obtain ⟨at1, ad⟩ := a
      have h1 : at1 = T := by
        apply Array.ext_getElem?
        intro t
        rcases Nat.lt_or_ge t b with h2 | h2
        · exact (h.fr t (.inl h2)).trans (hT.2.1 t (.inl h2)).symm
        · rcases Nat.lt_or_ge t (b + l.length) with h3 | h3
          · obtain ⟨i, rfl⟩ : ∃ i, t = b + i := ⟨t - b, by omega⟩
            exact (h.v i (by omega) (hall i (by simp; omega))).trans (hT.2.2 i (by omega)).symm
          · exact (h.fr t (.inr h3)).trans (hT.2.1 t (.inr h3)).symm
      have h2 := h.df
      subst h1
      simp only [] at h2
      subst h2
      rfl
    rw [e]
    exact hend w h.kp
end
end Go.Proofs.YtgfekgceeigdiaaDoor
namespace Go.Proofs.YtgfekgceeigdiaaDoor
open Go.RowKit Go.Shelf
attribute [local go_sem] Oper.semAt_some
abbrev ByIn (L : List By) := { y : By // y ∈ L }
theorem wait_stops (n : Nat) (hn : 1 ≤ n) (Bs Bp : Nat) (q vs : Value) (ab ap : Option Addr) (cb cp m : Nat) (L : List By) (ps : List Int) (w : World) (hB1 : Bs < w.heap.size) (hB2 : Bp < w.heap.size)
    (hBs : Blk w Bs #[q, .slice ab m cb, .slice ap ps.length cp, vs] 44) (hBp : Blk w Bp #[.func (.func 73) #[] #[.pointer (some ⟨Bs, 0, none⟩)]] 143)
    (hI : ByC (fun k => k < w.heap.size) w ab L) (hm : L.length = m) (hml : m ≤ 1000) (hP : Sl (fun k => k < w.heap.size) w (.slice ap ps.length cp) (i64s ps)) (hpl : ps.length ≤ 1000) (hps : ps.Pairwise (· < ·)) :
    SeqStopsK Fence.wide n Tryd.prog 74 #[.pointer (some ⟨Bs, 0, none⟩), .pointer (some ⟨Bp, 0, none⟩)] (fun x : ByIn L => #[.agg #[.int .i64 x.1.1.i, .int .i64 x.1.1.f, .int .i64 x.1.1.t, .int .i64 x.1.1.g, .int .i64 x.1.1.o, .int .i64 x.1.1.a, .int .u32 (x.1.1.s : Int), .slice x.1.2.1 x.1.1.d.length x.1.2.2]]) (Below w.heap.size)
      (fun ys => ys.map (·.1) = L.filter (nps ps)) (fun pre => ∃ k, k ≤ L.length ∧ pre.map (·.1) = (L.take k).filter (nps ps)) L.length w := fun l J Jx W hW hJ _ hY h0 => by
  have hK : Keeps (fun b => w.heap.size ≤ b) w W := Keeps.of_below hW
  refine (wait2_in n hn l Bs Bp w.heap.size q vs ab ap cb cp m L ps (fun pre W => ∃ pr : List (ByIn L), pr.map (·.1) = pre ∧ J pr W) (fun pre W => ∃ pr : List (ByIn L), pr.map (·.1) = pre ∧ Jx pr W) ?_ W ?_ hW.size (blk_keep hBs hK (fun h => by omega)) (blk_keep hBp hK (fun h => by omega)) hB1 hB2 (hI.keep hK (fun b _ h1 h2 => by omega)) hm hml (hP.keep hK (fun b _ h1 h2 => by omega)) hpl hps ⟨[], rfl, h0⟩).mono ?_
  · rintro pre y W1 hy ⟨pr, rfl, hj⟩ hlt
    obtain ⟨fn, tmps, assign, body, h1, h2⟩ := hY pr ⟨y, hy⟩ W1 hj (by simpa using hlt)
    refine ⟨fn, tmps, assign, body, h1, h2.mono ?_⟩
    rintro e W' (⟨h3, h4, h5⟩ | ⟨h3, h4⟩)
    · exact .inl ⟨h3, ⟨_, by simp, h4⟩, h5⟩
    · exact .inr ⟨h3, ⟨_, by simp, h4⟩⟩
  · rintro s A B row ⟨pr, rfl, hj⟩ hg hr
    exact ⟨pr, rfl, hJ _ _ _ row hj hg hr⟩
  · rintro e W' ⟨h1, ⟨ys, h2, pr, h3, h4⟩ | ⟨pre, ⟨k, h2, h3⟩, pr, h4, h5⟩⟩
    · exact ⟨h1, .inl ⟨pr, by show pr.map (·.1) = _; rw [h3, h2], h4⟩⟩
    · exact ⟨h1, .inr ⟨pr, ⟨k, h2, by rw [h4, h3]⟩, h5⟩⟩
def nextB (bs : List Bu) (ps : List Int) : Option Bu := bs.find? (fun x => !(ps.contains x.i))
def OffPost (w : World) (o : Option Bu) (e : Ending) (w' : World) : Prop := match o with
  | some x => ∃ a c, e = .returned (.tuple #[.agg #[.int .i64 x.i, .int .i64 x.f, .int .i64 x.t, .int .i64 x.g, .int .i64 x.o, .int .i64 x.a, .int .u32 (x.s : Int), .slice a x.d.length c], .bool true]) ∧ Sl (fun b => w.heap.size ≤ b) w' (.slice a x.d.length c) (u8s x.d)
  | none => e = .returned (.tuple #[.agg #[.int .i64 0, .int .i64 0, .int .i64 0, .int .i64 0, .int .i64 0, .int .i64 0, .int .u32 0, .slice none 0 0], .bool false])
theorem blkset8 {X : World} {b : Nat} {T : TypeId} {c0 c1 c2 c3 c4 c5 c6 c7 : Value} (h : Blk X b #[c0, c1, c2, c3, c4, c5, c6, c7] T) (u0 u1 u2 u3 u4 u5 u6 u7 : Value) : Blk ((((((((X.setCell ⟨b, 0, none⟩ u0).setCell ⟨b, 1, none⟩ u1).setCell ⟨b, 2, none⟩ u2).setCell ⟨b, 3, none⟩ u3).setCell ⟨b, 4, none⟩ u4).setCell ⟨b, 5, none⟩ u5).setCell ⟨b, 6, none⟩ u6).setCell ⟨b, 7, none⟩ u7) b #[u0, u1, u2, u3, u4, u5, u6, u7] T := by
  have h := blk_set (blk_set (blk_set (blk_set (blk_set (blk_set (blk_set (blk_set h 0 u0) 1 u1) 2 u2) 3 u3) 4 u4) 5 u5) 6 u6) 7 u7
  simp only [List.setIfInBounds_toArray, List.set_cons_zero, List.set_cons_succ] at h
  exact h
theorem cells_of {w : World} {b o : Nat} {v : Value} (h : w.cell? ⟨b, o, none⟩ = some v) {x : Obj} (hx : w.heap[b]? = some x) (hc : x.isCells = false) : False := by
  unfold World.cell? at h
  simp only [hx] at h
  cases x <;> simp_all [Obj.isCells]
theorem sl_own {K : Nat → Prop} {X Y : World} {row : Option Nat} {v : Value} {xs : List Value} (hs : Sl K X v xs) (hg : X.grownBy Y row) (hr : ∀ r, row = some r → ∃ o : Obj, X.heap[r]? = some o ∧ o.isCells = false) : Sl K Y v xs := by
  obtain ⟨h0, h⟩ := hs
  refine ⟨h0, ?_⟩
  rcases h with h | ⟨x, cap, e1, e2, e3, e4⟩
  · exact .inl h
  · refine .inr ⟨x, cap, e1, e2, e3, fun hn => ?_⟩
    obtain ⟨b, o, rfl, hK, hb, hc⟩ := e4 hn
    have hne : some b ≠ row := fun e' => by
      obtain ⟨ob, ho, hc2⟩ := hr b e'.symm
      exact cells_of (hc 0 (by omega)) ho hc2
    exact ⟨b, o, rfl, hK, Nat.lt_of_lt_of_le hb hg.size, fun j hj => (World.cell?_of_block (hg.block b hb hne)).trans (hc j hj)⟩
set_option maxRecDepth 100000 in set_option maxHeartbeats 1000000 in
theorem Offer_in (K : Nat → Prop) (q : Value) (bs : List Bu) (ps : List Int) (ab ap : Option Addr) (cb cp : Nat) (vs : Value) (w : World) (hb : Bus K w (.slice ab bs.length cb) bs) (hp : Sl K w (.slice ap ps.length cp) (i64s ps))
    (l1 : bs.length ≤ 1000) (l2 : ps.length ≤ 1000) (hd : ∀ x ∈ bs, x.d.length ≤ 256) (hps : ps.Pairwise (· < ·)) :
    CallsIn Fence.wide 3 Tryd.prog 33 #[.agg #[q, .slice ab bs.length cb, .slice ap ps.length cp, vs], .int .i64 1000] w fun e W' => OffPost w (nextB bs ps) e W' ∧ Below w.heap.size w W' := by
  obtain ⟨L, hLb, hLc⟩ := byC_of hb
  have HP := hid (hp.mono (K' := fun b => b < w.heap.size) (fun b h _ => h)); have HPS := hid hps
  have HLC : Hd (ByC (fun b => b < w.heap.size) w ab L) := hid (fun k y hy => by
    obtain ⟨b, o, h1, h2, h3, c0, c1, c2, c3, c4, c5, c6, c7, hs⟩ := hLc k y hy
    exact ⟨b, o, h1, h3, h3, c0, c1, c2, c3, c4, c5, c6, c7, hs.mono (fun b h _ => h)⟩)
  have HLB := hid hLb
  have HLM : Hd (L.length = bs.length) := hid (by rw [← hLb]; simp)
  have HYL : Hd (∀ y ∈ L, y.1.d.length ≤ 256) := hid (fun y hy => hd y.1 (by rw [← hLb]; exact List.mem_map_of_mem hy))
  have HYS : Hd (∀ y ∈ L, Sl (fun b => b < w.heap.size) w (.slice y.2.1 y.1.d.length y.2.2) (u8s y.1.d)) := hid (fun y hy => by
    obtain ⟨k, hk, rfl⟩ := List.getElem_of_mem hy
    obtain ⟨b, o, _, _, _, _, _, _, _, _, _, _, _, hs⟩ := HLC.out k _ (List.getElem?_eq_getElem hk)
    exact hs)
  have HNX : Hd (nextB bs ps = ((L.filter (nps ps)).head?).map (·.1)) := hid (by
    unfold nextB
    rw [← hLb, List.find?_map, List.head?_filter]
    rfl)
  clear hb hp hd hps hLb hLc
  obtain ⟨m, hm⟩ : ∃ m, bs.length = m := ⟨_, rfl⟩
  rw [hm] at HLM l1 ⊢
  clear hm
  obtain ⟨np, hnp⟩ : ∃ m, ps.length = m := ⟨_, rfl⟩
  have HNP := hid hnp
  rw [hnp] at HP l2 ⊢
  clear hnp
  refine callsIn_of_wp_marks Tryd.func33 rfl trivial ?_ rfl
  simp only [Tryd.ntmps33, List.size_toArray, List.length_cons, List.length_nil, Nat.reduceAdd, Nat.reduceSub, Array.replicate_succ, Array.replicate_zero, List.push_toArray, List.append_toArray, List.nil_append, List.cons_append]
  gi_wp2_with fail
  refine ⟨trivial, ?_⟩
  refine (callsIn_wide.2 (waiting_any _ _ _ _ _)).mono ?_
  rintro e w' ⟨rfl, rfl⟩
  gi_wp2_with fail
  obtain ⟨W0, hW0⟩ : ∃ W0, ((((((w.alloc (.cells #[q, .slice ab m cb, .slice ap np cp, vs] 44)).alloc (.cells #[.int .i64 1000] 3)).alloc (.cells #[.int .i64 0, .int .i64 0, .int .i64 0, .int .i64 0, .int .i64 0, .int .i64 0, .int .u32 0, .slice none 0 0] 59)).alloc (.cells #[.bool false] 4)).alloc (.cells #[q, .slice ab m cb, .slice ap np cp, vs] 44)).alloc (.cells #[.func (.func 73) #[] #[.pointer (some ⟨w.heap.size + 1 + 1 + 1 + 1, 0, none⟩)]] 143)) = W0 := ⟨_, rfl⟩
  have b1 : Blk W0 (w.heap.size + 1) #[.int .i64 1000] 3 := by rw [← hW0]; exact blk_alloc (blk_alloc (blk_alloc (blk_alloc (blk_new' _ _ _ _ (by simp)) _) _) _) _
  have b2 : Blk W0 (w.heap.size + 1 + 1) #[.int .i64 0, .int .i64 0, .int .i64 0, .int .i64 0, .int .i64 0, .int .i64 0, .int .u32 0, .slice none 0 0] 59 := by rw [← hW0]; exact blk_alloc (blk_alloc (blk_alloc (blk_new' _ _ _ _ (by simp)) _) _) _
  have b3 : Blk W0 (w.heap.size + 1 + 1 + 1) #[.bool false] 4 := by rw [← hW0]; exact blk_alloc (blk_alloc (blk_new' _ _ _ _ (by simp)) _) _
  have b4 : Blk W0 (w.heap.size + 1 + 1 + 1 + 1) #[q, .slice ab m cb, .slice ap np cp, vs] 44 := by rw [← hW0]; exact blk_alloc (blk_new' _ _ _ _ (by simp)) _
  have b5 : Blk W0 (w.heap.size + 1 + 1 + 1 + 1 + 1) #[.func (.func 73) #[] #[.pointer (some ⟨w.heap.size + 1 + 1 + 1 + 1, 0, none⟩)]] 143 := by rw [← hW0]; exact blk_new' _ _ _ _ (by simp)
  have k0 : Keeps (fun _ => False) w W0 := by rw [← hW0]; repeat (first | (with_reducible assumption) | (with_reducible exact Keeps.refl _ _) | (with_reducible apply Keeps.drewN) | (with_reducible apply Keeps.drew) | (with_reducible apply Keeps.alloc) | refine Keeps.setCell ?_ (by first | (simp; done) | (simp; omega)) _)
  have hs0 : W0.heap.size = w.heap.size + 6 := by rw [← hW0]; simp
  have hB0 : Below w.heap.size w W0 := k0.below (Nat.le_refl _) (fun _ _ h => h)
  have hge2 : w.heap.size ≤ W0.heap.size := by omega
  have hI0 : ByC (fun k => k < W0.heap.size) W0 ab L := by
    have h := HLC.out.keep k0 (fun _ _ _ h => h)
    intro k y hy
    obtain ⟨b, o, h1, h2, h3, c0, c1, c2, c3, c4, c5, c6, c7, hs⟩ := h k y hy
    exact ⟨b, o, h1, h3, h3, c0, c1, c2, c3, c4, c5, c6, c7, hs.mono (fun b h _ => h)⟩
  have hP0 : Sl (fun k => k < W0.heap.size) W0 (.slice ap np cp) (i64s ps) := (HP.out.keep k0 (fun _ _ _ h => h)).mono (fun b h _ => h)
  rw [hW0]
  have hst := wait_stops 2 (by omega) (w.heap.size + 1 + 1 + 1 + 1) (w.heap.size + 1 + 1 + 1 + 1 + 1) q vs ab ap cb cp m L ps W0 (by omega) (by omega) (by rw [HNP.out]; exact b4) b5 hI0 HLM.out l1 (by rw [HNP.out]; exact hP0) (by rw [HNP.out]; exact l2) HPS.out
  have HS0 := hid hs0
  clear hs0 b4 b5 hI0 hP0
  refine wpIn_rangeFunc_ownH rfl (by omega) (gf := 74) (lb := #[.pointer (some ⟨w.heap.size + 1 + 1 + 1 + 1, 0, none⟩), .pointer (some ⟨w.heap.size + 1 + 1 + 1 + 1 + 1, 0, none⟩)]) rfl trivial (enters_of Tryd.func74 (by kernel_rfl) rfl)
    hst belowK_t (belowK_b (Nat.le_refl _)) (Below.refl _ _) (fun _ => rfl)
    (fun pre W => ((pre = [] ∧ Blk W (w.heap.size + 1) #[.int .i64 1000] 3) ∧ (Blk W (w.heap.size + 1 + 1) #[.int .i64 0, .int .i64 0, .int .i64 0, .int .i64 0, .int .i64 0, .int .i64 0, .int .u32 0, .slice none 0 0] 59 ∧ Blk W (w.heap.size + 1 + 1 + 1) #[.bool false] 4)) ∧ (Below w.heap.size w W ∧ W0.heap.size ≤ W.heap.size))
    (fun c pre W => (c = .ret ∧ ∃ x a4 c4, pre = [x] ∧ Blk W (w.heap.size + 1 + 1) #[.int .i64 x.1.1.i, .int .i64 x.1.1.f, .int .i64 x.1.1.t, .int .i64 x.1.1.g, .int .i64 x.1.1.o, .int .i64 x.1.1.a, .int .u32 (x.1.1.s : Int), .slice a4 x.1.1.d.length c4] 59 ∧ Blk W (w.heap.size + 1 + 1 + 1) #[.bool true] 4 ∧ Sl (fun b => w.heap.size ≤ b) W (.slice a4 x.1.1.d.length c4) (u8s x.1.1.d)) ∧ Below w.heap.size w W)
    (OwnFrom.and (Go.Own.from (fun s A B row hs hg hr => ⟨⟨hs.1.1, blk_own _ _ (fun _ => _) s A B row hs.1.2 hg hr⟩, blk_own _ _ (fun _ => _) s A B row hs.2.1 hg hr, blk_own _ _ (fun _ => _) s A B row hs.2.2 hg hr⟩) _) (OwnFrom.and (ownFrom_below (Nat.le_refl _) hge2) (fun s A B row hs hg hr => Nat.le_trans hs hg.size)))
    (fun c => OwnFrom.and (Go.Own.from (fun s A B row hs hg hr => by obtain ⟨hc, x, a4, c4, e1, e2, e3, e4⟩ := hs; exact ⟨hc, x, a4, c4, e1, blk_own _ _ (fun _ => _) s A B row e2 hg hr, blk_own _ _ (fun _ => _) s A B row e3 hg hr, sl_own e4 hg hr⟩) _) (ownFrom_below (Nat.le_refl _) hge2))
    ⟨⟨⟨rfl, b1⟩, b2, b3⟩, hB0, Nat.le_refl _⟩
    (fun x a' W => ∃ Bx, W0.heap.size ≤ Bx ∧ Blk W Bx #[.int .i64 x.1.1.i, .int .i64 x.1.1.f, .int .i64 x.1.1.t, .int .i64 x.1.1.g, .int .i64 x.1.1.o, .int .i64 x.1.1.a, .int .u32 (x.1.1.s : Int), .slice x.1.2.1 x.1.1.d.length x.1.2.2] 59 ∧ a' = { tmps := #[.agg #[q, .slice ab m cb, .slice ap np cp, vs], .int .i64 1000, .pointer (some ⟨w.heap.size, 0, none⟩), .pointer (some ⟨w.heap.size + 1, 0, none⟩), .pointer (some ⟨w.heap.size + 1 + 1, 0, none⟩), .pointer (some ⟨w.heap.size + 1 + 1 + 1, 0, none⟩), .pointer (some ⟨Bx, 0, none⟩), .agg #[q, .slice ab m cb, .slice ap np cp, vs], .func (.func 74) #[] #[.pointer (some ⟨w.heap.size + 1 + 1 + 1 + 1, 0, none⟩), .pointer (some ⟨w.heap.size + 1 + 1 + 1 + 1 + 1, 0, none⟩)], .agg #[.int .i64 x.1.1.i, .int .i64 x.1.1.f, .int .i64 x.1.1.t, .int .i64 x.1.1.g, .int .i64 x.1.1.o, .int .i64 x.1.1.a, .int .u32 (x.1.1.s : Int), .slice x.1.2.1 x.1.1.d.length x.1.2.2], undef, undef, undef, undef, undef, undef, undef], defers := [] })
    (fun x a' _ X Y row hs hg hr => by obtain ⟨Bx, h1, h2, h3⟩ := hs; exact ⟨Bx, h1, blk_own Bx _ (fun (_ : Unit) => _) () X Y row h2 hg (fun r e => (hr r e).2), h3⟩)
    ?assign ?body ?done ?stop
  case assign =>
    rintro l pre x W K ⟨⟨⟨p1, p2⟩, p3, p4⟩, p5, p6⟩ hK
    gi_wp2
    exact hK _ _ ((KeepsOthers.alloc _ _).from _) ((Below.refl _ W).alloc p6 _) ⟨⟨⟨p1, blk_alloc p2 _⟩, blk_alloc p3 _, blk_alloc p4 _⟩, p5.alloc p5.size _, by simp; omega⟩ ⟨W.heap.size, p6, blk_new W _ _, rfl⟩
  case body =>
    rintro l pre x a' W hl ⟨r, hr⟩ ⟨⟨⟨rfl, p2⟩, p3, p4⟩, p5, p6⟩ ⟨Bx, hBx, bX, rfl⟩ hlt
    have hxl := HYL.out x.1 x.2
    have HSX : Hd (Sl (fun b => b < w.heap.size) W (.slice x.1.2.1 x.1.1.d.length x.1.2.2) (u8s x.1.1.d)) := hid ((HYS.out x.1 x.2).keep (Keeps.of_below p5) (fun b _ h1 h2 => by omega))
    have hw : decide ((x.1.1.d.length : Int) + 16 ≤ 1000) = true := by simp; omega
    have HP2 := hid p2; have HP3 := hid p3; have HP4 := hid p4; have HP5 := hid p5; have HBX := hid bX
    have HS1 := HS0.out
    clear p2 p3 p4 p5 bX
    gi_wp2_with fail
    refine wpIn_region_vals (by kernel_rfl) 10 (fun i => match i with | 0 => .agg #[.int .i64 x.1.1.i, .int .i64 x.1.1.f, .int .i64 x.1.1.t, .int .i64 x.1.1.g, .int .i64 x.1.1.o, .int .i64 x.1.1.a, .int .u32 (x.1.1.s : Int), .slice x.1.2.1 x.1.1.d.length x.1.2.2] | 1 => .int .i64 ((x.1.1.d.length : Int) + 16) | 2 => .int .i64 1000 | _ => .bool true) (by kernel_rfl) ?dst (by simp) ?op #[.agg #[q, .slice ab m cb, .slice ap np cp, vs], .int .i64 1000, .pointer (some ⟨w.heap.size, 0, none⟩), .pointer (some ⟨w.heap.size + 1, 0, none⟩), .pointer (some ⟨w.heap.size + 1 + 1, 0, none⟩), .pointer (some ⟨w.heap.size + 1 + 1 + 1, 0, none⟩), .pointer (some ⟨Bx, 0, none⟩), .agg #[q, .slice ab m cb, .slice ap np cp, vs], .func (.func 74) #[] #[.pointer (some ⟨w.heap.size + 1 + 1 + 1 + 1, 0, none⟩), .pointer (some ⟨w.heap.size + 1 + 1 + 1 + 1 + 1, 0, none⟩)], .agg #[.int .i64 x.1.1.i, .int .i64 x.1.1.f, .int .i64 x.1.1.t, .int .i64 x.1.1.g, .int .i64 x.1.1.o, .int .i64 x.1.1.a, .int .u32 (x.1.1.s : Int), .slice x.1.2.1 x.1.1.d.length x.1.2.2], .agg #[.int .i64 x.1.1.i, .int .i64 x.1.1.f, .int .i64 x.1.1.t, .int .i64 x.1.1.g, .int .i64 x.1.1.o, .int .i64 x.1.1.a, .int .u32 (x.1.1.s : Int), .slice x.1.2.1 x.1.1.d.length x.1.2.2], .int .i64 ((x.1.1.d.length : Int) + 16), .int .i64 1000, .bool true, undef, undef, undef] ?hT ?fin
    case dst =>
      intro i o ho
      match i, ho with
      | 0, ho => simp at ho; subst ho; rfl
      | 1, ho => simp at ho; subst ho; rfl
      | 2, ho => simp at ho; subst ho; rfl
      | 3, ho => simp at ho; subst ho; rfl
      | i + 4, ho => simp at ho
    case op =>
      intro i o ho aq wq hkq hfr haf
      have evo : ∀ t v, aq.tmps[t]? = some v → aq.eval (.tmp t) = v := fun t v h => by
        show aq.tmps.getD t undef = v
        simp [Array.getD_eq_getD_getElem?, h]
      have HBQ := blk_keep HBX.out hkq (fun h => h)
      match i, ho with
      | 0, ho =>
        have ho1 := ho
        simp only [List.getElem?_cons_zero, Option.some.injEq] at ho1
        subst ho1
        have e0 := evo 6 _ ((hfr 6 (.inl (by decide))).trans rfl)
        have c0 := blk_cell HBQ 0
        have c1 := blk_cell HBQ 1
        have c2 := blk_cell HBQ 2
        have c3 := blk_cell HBQ 3
        have c4 := blk_cell HBQ 4
        have c5 := blk_cell HBQ 5
        have c6 := blk_cell HBQ 6
        have c7 := blk_cell HBQ 7
        clear hfr haf HBQ
        exact wpOpIn_ran ho rfl (by intro c h; cases h) (v := .agg #[.int .i64 x.1.1.i, .int .i64 x.1.1.f, .int .i64 x.1.1.t, .int .i64 x.1.1.g, .int .i64 x.1.1.o, .int .i64 x.1.1.a, .int .u32 (x.1.1.s : Int), .slice x.1.2.1 x.1.1.d.length x.1.2.2]) (w' := wq) (by simp only [execOp, e0]; go_simp) ⟨rfl, Keeps.refl _ _⟩
      | 1, ho =>
        have ho1 := ho
        simp only [List.getElem?_cons_succ, List.getElem?_cons_zero, Option.some.injEq] at ho1
        subst ho1
        have e0 := evo 10 _ (haf ⟨0, .data⟩ (by simp) rfl)
        simp only [] at e0
        exact wpOpIn_call ho rfl (by intro c h; cases h) (f := 25) (args := #[.agg #[.int .i64 x.1.1.i, .int .i64 x.1.1.f, .int .i64 x.1.1.t, .int .i64 x.1.1.g, .int .i64 x.1.1.o, .int .i64 x.1.1.a, .int .u32 (x.1.1.s : Int), .slice x.1.2.1 x.1.1.d.length x.1.2.2]]) (by simp only [execOp_call_go, List.map_toArray, List.map_cons, List.map_nil, e0]; rfl) ((Size_any _ _ _ _ _ _ _ x.1.2.1 x.1.1.d.length x.1.2.2 wq (by omega)).mono (fun e w2 ⟨he, hk2⟩ => ⟨_, he, rfl, hk2⟩))
      | 2, ho =>
        have ho1 := ho
        simp only [List.getElem?_cons_succ, List.getElem?_cons_zero, Option.some.injEq] at ho1
        subst ho1
        have e0 := evo 3 _ ((hfr 3 (.inl (by decide))).trans rfl)
        have c0 := blk_cell (blk_keep HP2.out hkq (fun h => h)) 0
        exact wpOpIn_ran ho rfl (by intro c h; cases h) (v := .int .i64 1000) (w' := wq) (by simp only [execOp, e0]; go_simp) ⟨rfl, Keeps.refl _ _⟩
      | 3, ho =>
        have ho1 := ho
        simp only [List.getElem?_cons_succ, List.getElem?_cons_zero, Option.some.injEq] at ho1
        subst ho1
        have e0 := evo 11 _ (haf ⟨1, .data⟩ (by simp) rfl)
        have e1 := evo 12 _ (haf ⟨2, .data⟩ (by simp) rfl)
        simp only [] at e0 e1
        exact wpOpIn_ran ho rfl (by intro c h; cases h) (v := .bool true) (w' := wq) (by simp only [execOp, e0, e1]; go_simp) ⟨rfl, Keeps.refl _ _⟩
      | i + 4, ho => simp at ho
    case hT =>
      refine ⟨rfl, fun t ht => ?_, fun i hi => ?_⟩
      · rcases ht with ht | ht
        · match t, ht with
          | 0, _ => rfl
          | 1, _ => rfl
          | 2, _ => rfl
          | 3, _ => rfl
          | 4, _ => rfl
          | 5, _ => rfl
          | 6, _ => rfl
          | 7, _ => rfl
          | 8, _ => rfl
          | 9, _ => rfl
          | t + 10, ht => omega
        · simp only [List.length_cons, List.length_nil] at ht
          match t, ht with
          | 14, _ => rfl
          | 15, _ => rfl
          | 16, _ => rfl
          | t + 17, _ => rfl
          | 0, ht | 1, ht | 2, ht | 3, ht | 4, ht | 5, ht | 6, ht | 7, ht | 8, ht | 9, ht | 10, ht | 11, ht | 12, ht | 13, ht => omega
      · simp only [List.length_cons, List.length_nil] at hi
        match i, hi with
        | 0, _ => rfl
        | 1, _ => rfl
        | 2, _ => rfl
        | 3, _ => rfl
        | i + 4, hi => omega
    case fin =>
      intro W1 hk1
      have HK1 := hid hk1
      have HBX1 := blk_keep HBX.out hk1 (fun h => h)
      have x0 := blk_cell HBX1 0
      have x1 := blk_cell HBX1 1
      have x2 := blk_cell HBX1 2
      have x3 := blk_cell HBX1 3
      have x4 := blk_cell HBX1 4
      have x5 := blk_cell HBX1 5
      have x6 := blk_cell HBX1 6
      have x7 := blk_cell HBX1 7
      have z1 := hk1.size
      clear HBX1 hk1 hw
      gi_wp2_with fail
      refine ⟨trivial, (CallsIn.inRound l (callsIn_wide.2 (clone_any x.1.1 _ x.1.2.1 x.1.2.2 W1 (HSX.out.keep HK1.out (fun _ _ _ h => h)) (by omega)))).mono ?_⟩
      rintro e W2 ⟨a4, c4, rfl, hsl, hk2⟩
      have HSL := hid hsl
      have HK2 := hid (HK1.out.trans hk2)
      have z2 := hk2.size
      clear hsl hk2 x0 x1 x2 x3 x4 x5 x6 x7 HK1
      have P3 := hid (blk_keep HP3.out HK2.out (fun h => h)); have P4 := hid (blk_keep HP4.out HK2.out (fun h => h))
      have y0 := blk_cell P3.out 0
      have y1 := blk_cell P3.out 1
      have y2 := blk_cell P3.out 2
      have y3 := blk_cell P3.out 3
      have y4 := blk_cell P3.out 4
      have y5 := blk_cell P3.out 5
      have y6 := blk_cell P3.out 6
      have y7 := blk_cell P3.out 7
      have g0 := blk_free P3.out 0
      have g1 := blk_free P3.out 1
      have g2 := blk_free P3.out 2
      have g3 := blk_free P3.out 3
      have g4 := blk_free P3.out 4
      have g5 := blk_free P3.out 5
      have g6 := blk_free P3.out 6
      have g7 := blk_free P3.out 7
      have q0 : W2.cell? ⟨w.heap.size + 1 + 1 + 1, 0, none⟩ = some (.bool false) := blk_cell P4.out 0
      have h0 := blk_free P4.out 0
      gi_wp2
      have K8 := keep8 W2 (w.heap.size + 1 + 1) (.int .i64 x.1.1.i) (.int .i64 x.1.1.f) (.int .i64 x.1.1.t) (.int .i64 x.1.1.g) (.int .i64 x.1.1.o) (.int .i64 x.1.1.a) (.int .u32 (x.1.1.s : Int)) (.slice a4 x.1.1.d.length c4)
      have B8 := blkset8 P3.out (.int .i64 x.1.1.i) (.int .i64 x.1.1.f) (.int .i64 x.1.1.t) (.int .i64 x.1.1.g) (.int .i64 x.1.1.o) (.int .i64 x.1.1.a) (.int .u32 (x.1.1.s : Int)) (.slice a4 x.1.1.d.length c4)
      have KT := (K8.mono (T := fun b => b = w.heap.size + 1 + 1 ∨ b = w.heap.size + 1 + 1 + 1) (fun _ _ h => .inl h)).setCell (p := ⟨w.heap.size + 1 + 1 + 1, 0, none⟩) (.inl (.inr rfl)) (.bool true)
      have KA := (HK2.out.mono (T := fun b => b = w.heap.size + 1 + 1 ∨ b = w.heap.size + 1 + 1 + 1) (fun _ _ h => h.elim)).trans KT
      have e1 := blk_other (c := w.heap.size + 1 + 1 + 1) B8 (by omega) 0 (.bool true)
      have e2 := blk_set (blk_keep P4.out K8 (fun h => by omega)) 0 (.bool true)
      simp only [List.setIfInBounds_toArray, List.set_cons_zero, List.set_cons_succ] at e2
      have e3 := (HSL.out.mono (K' := fun b => w.heap.size ≤ b ∧ b ≠ w.heap.size + 1 + 1 ∧ b ≠ w.heap.size + 1 + 1 + 1) (fun b _ h => ⟨by omega, by omega, by omega⟩)).keep KT (fun b _ h1 h2 => by omega)
      refine ⟨(keepsOthers_of KA (fun b hb h => by rcases h with rfl | rfl; exact ⟨_, _, HP3.out⟩; exact ⟨_, _, HP4.out⟩)).from _, ⟨rfl, x, a4, c4, rfl, e1, e2, e3.mono (fun b _ h => h.1)⟩, HP5.out.trans (KA.below (by omega) (fun k hk h => by omega))⟩
  case done =>
    rintro D ys W hD hys ⟨⟨⟨rfl, p2⟩, p3, p4⟩, p5, p6⟩ hK
    have hnx : nextB bs ps = none := by rw [HNX.out, ← hys]; rfl
    have y0 := blk_cell p3 0
    have y1 := blk_cell p3 1
    have y2 := blk_cell p3 2
    have y3 := blk_cell p3 3
    have y4 := blk_cell p3 4
    have y5 := blk_cell p3 5
    have y6 := blk_cell p3 6
    have y7 := blk_cell p3 7
    have g0 := blk_free p3 0
    have g1 := blk_free p3 1
    have g2 := blk_free p3 2
    have g3 := blk_free p3 3
    have g4 := blk_free p3 4
    have g5 := blk_free p3 5
    have g6 := blk_free p3 6
    have g7 := blk_free p3 7
    have q0 : W.cell? ⟨w.heap.size + 1 + 1 + 1, 0, none⟩ = some (.bool false) := blk_cell p4 0
    have h0 := blk_free p4 0
    have HP3 := hid p3; have HP4 := hid p4; have HP5 := hid p5; have HNN := hid hnx
    have hs0 := HS0.out
    clear p2 p3 p4 p5 hnx
    gi_wp2
    have K8 := keep8 W (w.heap.size + 1 + 1) (.int .i64 0) (.int .i64 0) (.int .i64 0) (.int .i64 0) (.int .i64 0) (.int .i64 0) (.int .u32 0) (.slice none 0 0)
    have KT := (K8.mono (T := fun b => b = w.heap.size + 1 + 1 ∨ b = w.heap.size + 1 + 1 + 1) (fun _ _ h => .inl h)).setCell (p := ⟨w.heap.size + 1 + 1 + 1, 0, none⟩) (.inl (.inr rfl)) (.bool false)
    have e1 := blk_other (c := w.heap.size + 1 + 1 + 1) (blkset8 HP3.out (.int .i64 0) (.int .i64 0) (.int .i64 0) (.int .i64 0) (.int .i64 0) (.int .i64 0) (.int .u32 0) (.slice none 0 0)) (by omega) 0 (.bool false)
    have e2 := blk_set (blk_keep HP4.out K8 (fun h => by omega)) 0 (.bool false)
    simp only [List.setIfInBounds_toArray, List.set_cons_zero, List.set_cons_succ] at e2
    have hDW : D < W.heap.size := (Array.getElem?_eq_some_iff.1 hK).1
    have hK' := (KT.block D hDW (fun h => by omega)).trans hK
    have hB' : Below w.heap.size w _ := HP5.out.trans (KT.below (by omega) (fun k hk h => by omega))
    clear K8 KT
    generalize World.setCell (World.setCell (World.setCell (World.setCell (World.setCell (World.setCell (World.setCell (World.setCell (World.setCell W _ _) _ _) _ _) _ _) _ _) _ _) _ _) _ _) _ _ = W9 at *
    refine ⟨by simp, .inl ⟨_, _, rfl, run_takeDeferred hK', ?_⟩⟩
    have e7 := blk_own _ _ (fun (_ : Unit) => _) () _ _ _ e1 (grownBy_putObj' _ D (.deferred none)) (fun r e => by cases e; exact ⟨_, hK', rfl⟩)
    have e8 := blk_own _ _ (fun (_ : Unit) => _) () _ _ _ e2 (grownBy_putObj' _ D (.deferred none)) (fun r e => by cases e; exact ⟨_, hK', rfl⟩)
    have c0 := blk_cell e7 0
    have c1 := blk_cell e7 1
    have c2 := blk_cell e7 2
    have c3 := blk_cell e7 3
    have c4 := blk_cell e7 4
    have c5 := blk_cell e7 5
    have c6 := blk_cell e7 6
    have c7 := blk_cell e7 7
    have c8 := blk_cell e8 0
    refine ⟨.tuple #[.agg #[.int .i64 0, .int .i64 0, .int .i64 0, .int .i64 0, .int .i64 0, .int .i64 0, .int .u32 0, .slice none 0 0], .bool false], ?_, by rw [HNN.out]; exact ⟨rfl, hB'.trans (belowK_b (w := w) (Nat.le_refl _) W9 D _ _ (by omega) hK' rfl rfl)⟩⟩
    simp [results, Tryd.f33, go_sem, c0, c1, c2, c3, c4, c5, c6, c7, c8]
  case stop =>
    rintro D c pre W hD ⟨k, hk, hpre⟩ ⟨⟨rfl, x, a4, c4, rfl, e2, e3, e4⟩, e6⟩ hK
    have hnx : nextB bs ps = some x.1.1 := by
      rw [HNX.out]
      have : L.filter (nps ps) = (L.take k).filter (nps ps) ++ (L.drop k).filter (nps ps) := by rw [← List.filter_append, List.take_append_drop]
      rw [this, ← hpre]
      rfl
    have HNN := hid hnx
    have hs0 := HS0.out
    clear hnx
    gi_wp2
    refine ⟨by simp, .inl ⟨_, _, rfl, run_takeDeferred hK, ?_⟩⟩
    have hDW : D < W.heap.size := (Array.getElem?_eq_some_iff.1 hK).1
    have e7 := blk_own _ _ (fun (_ : Unit) => _) () _ _ _ e2 (grownBy_putObj' _ D (.deferred none)) (fun r e => by cases e; exact ⟨_, hK, rfl⟩)
    have e8 := blk_own _ _ (fun (_ : Unit) => _) () _ _ _ e3 (grownBy_putObj' _ D (.deferred none)) (fun r e => by cases e; exact ⟨_, hK, rfl⟩)
    have e9 := sl_own e4 (grownBy_putObj' _ D (.deferred none)) (fun r e => by cases e; exact ⟨_, hK, rfl⟩)
    have r0 := blk_cell e7 0
    have r1 := blk_cell e7 1
    have r2 := blk_cell e7 2
    have r3 := blk_cell e7 3
    have r4 := blk_cell e7 4
    have r5 := blk_cell e7 5
    have r6 := blk_cell e7 6
    have r7 := blk_cell e7 7
    have r8 := blk_cell e8 0
    refine ⟨.tuple #[.agg #[.int .i64 x.1.1.i, .int .i64 x.1.1.f, .int .i64 x.1.1.t, .int .i64 x.1.1.g, .int .i64 x.1.1.o, .int .i64 x.1.1.a, .int .u32 (x.1.1.s : Int), .slice a4 x.1.1.d.length c4], .bool true], ?_, by rw [HNN.out]; exact ⟨⟨a4, c4, rfl, e9⟩, e6.trans (belowK_b (w := w) (Nat.le_refl _) W D _ _ (by omega) hK rfl rfl)⟩⟩
    simp [results, Tryd.f33, go_sem, r0, r1, r2, r3, r4, r5, r6, r7, r8]
theorem Offer_any (K : Nat → Prop) (q : Value) (bs : List Bu) (ps : List Int) (ab ap : Option Addr) (cb cp : Nat) (vs : Value) (w : World) (hb : Bus K w (.slice ab bs.length cb) bs) (hp : Sl K w (.slice ap ps.length cp) (i64s ps))
    (l1 : bs.length ≤ 1000) (l2 : ps.length ≤ 1000) (hd : ∀ x ∈ bs, x.d.length ≤ 256) (hps : ps.Pairwise (· < ·)) :
    Calls Tryd.prog 33 #[.agg #[q, .slice ab bs.length cb, .slice ap ps.length cp, vs], .int .i64 1000] w fun e W' => OffPost w (nextB bs ps) e W' ∧ Keeps (fun _ => False) w W' := by
  refine ((callsIn_wide (n := 3)).1 (Offer_in K q bs ps ab ap cb cp vs w hb hp l1 l2 hd hps)).mono ?_
  rintro e W' ⟨h1, h2⟩
  exact ⟨h1, (Keeps.of_below h2).mono (fun b hb h => by omega)⟩
end Go.Proofs.YtgfekgceeigdiaaDoor
