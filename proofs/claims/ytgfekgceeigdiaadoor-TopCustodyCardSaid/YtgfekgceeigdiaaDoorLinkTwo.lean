/- Custody: LinkF, LinkG, LinkH, LinkI, LinkJ: walks and plain facts. -/
import Derived.Test.YtgfekgceeigdiaaDoorLinkOne
import Derived.Laws.CopyOwn
import Derived.Deep.OwnRows
import Derived.Laws.BitsAllLaws
import Derived.Test.YtgfekgceeigdiaaDoorBaseAll
import Derived.Deep.Cut
import Derived.Deep.CutRange
import Derived.Deep.CutBlock
import Derived.Deep.RegionHeld3
namespace Go.Proofs.YtgfekgceeigdiaaDoor.Li
open Go.RowKit
attribute [local go_sem ↓] Go.wp_at_zero Go.wp_at_succ
/-- a fate: its message, kind, delay, argument, forged bytes -/
structure Ft where
  m : Int
  k : Int
  dl : Int
  a : Int
  fg : List Nat
def FtV (K : Nat → Prop) (w : World) (v : Value) (x : Ft) : Prop := ∃ af cf, v = .agg #[.int .i64 x.m, .int .i64 x.k, .int .i64 x.dl, .int .i64 x.a, .slice af x.fg.length cf] ∧ Sl K w (.slice af x.fg.length cf) (u8s x.fg)
def gPlace (n : Nat) (arg : Int) : Nat := (arg % n).toNat
def spoilL (b : List Nat) (x : Ft) : List Nat :=
  if x.k = 5 then x.fg else if x.k = 3 then b.take (max x.a 0).toNat else if x.k = 4 ∧ b ≠ [] then b.set (gPlace b.length x.a) (255 - b.getD (gPlace b.length x.a) 0) else b
def SpoilRet (w : World) (xs : List Nat) (r : Ending) (w' : World) : Prop := ∃ a c, r = .returned (.slice a xs.length c) ∧ Sl (fun b => w.heap.size ≤ b) w' (.slice a xs.length c) (u8s xs) ∧ Keeps (fun _ => False) w w'
theorem place_eq (n : Nat) (arg : Int) (h0 : 0 < n) (hn : n ≤ 1000000000) : wrap64 (arg.tmod n + n) = arg.tmod n + n ∧ (arg.tmod n + n).tmod n = (gPlace n arg : Nat) ∧ gPlace n arg < n := by
  have h4 : (arg.tmod n).natAbs < n := by
    rw [Int.natAbs_tmod]; exact Nat.mod_lt _ (by simpa using h0)
  have h5 : 0 ≤ arg % (n : Int) := Int.emod_nonneg _ (by omega)
  have h6 : arg % (n : Int) < n := Int.emod_lt_of_pos _ (by omega)
  refine ⟨by unfold wrap64; omega, ?_, by unfold gPlace; omega⟩
  unfold gPlace
  rw [Int.tmod_eq_emod_of_nonneg (by omega), Int.add_emod_right, Int.toNat_of_nonneg h5]
  have := Int.tmod_add_mul_tdiv arg n
  have e : arg.tmod n = arg - n * arg.tdiv n := by omega
  rw [e, Int.sub_mul_emod_self_left]
theorem infoU8s : (Tryd.prog.info? 5).map (·.size) = some 1 := by kernel_rfl
theorem splice_all {xs ys : List Value} (h : xs.length = ys.length) : splice xs 0 ys = ys := by
  unfold splice; simp [List.drop_eq_nil_of_le (by omega : xs.length ≤ ys.length)]
theorem getD_lt {l : List Nat} (hl : ∀ c ∈ l, c < 256) (j : Nat) : l.getD j 0 < 256 := by
  rcases Nat.lt_or_ge j l.length with h | h
  · have := hl l[j] (List.getElem_mem h)
    simpa [List.getD, h] using this
  · simp [List.getD, List.getElem?_eq_none h]
set_option maxRecDepth 100000 in
theorem not_u8 (c : Nat) (hc : c < 256) : bits BinOp.xor IntKind.u8 IntKind.u8.max (c : Int) = ((255 - c : Nat) : Int) := by
  have h := u8_xor_nat 255 c (by omega) hc
  have h2 : ∀ c, c < 256 → 255 ^^^ c = 255 - c := by decide
  rw [h2 c hc] at h
  exact h
theorem own_take {S : Nat → Prop} {w : World} {e : TypeId} {g n c : Nat} {l : List Nat} (h : Own S w e 1 (.slice (some ⟨g, 0, none⟩) n c) n (u8s l)) (j : Nat) (hj : j ≤ n) : Sl S w (.slice (some ⟨g, 0, none⟩) j c) (u8s (l.take j)) := by
  obtain ⟨a, cap, e1, h1, h2, h3⟩ := h.row.form
  injection e1 with e1 e2 e3
  subst e1; subst e3
  have hl : l.length = n := by have := h.row.1; rw [u8s_length] at this; omega
  have hl2 : (u8s (l.take j)).length = j := by rw [u8s_length, List.length_take]; omega
  refine ⟨by omega, .inr ⟨⟨g, 0, none⟩, c, by rw [hl2], by omega, h2, fun hp => ?_⟩⟩
  rw [hl2] at hp
  obtain ⟨b, o, e4, h5, h6, h7⟩ := h3 (by omega)
  refine ⟨b, o, by injection e4, h5, h6, fun i hi => ?_⟩
  have := h7 i (by omega)
  rw [this]
  have hij : i < j := by omega
  simp [u8s, List.getD, hij]
set_option maxRecDepth 100000 in set_option maxHeartbeats 1000000 in
theorem Spoil_any (_ : Nat → Prop) (v : Value) (b : List Nat) (fv : Value) (x : Ft) (w : World) (hv : Sl (fun b => b < w.heap.size) w v (u8s b)) (hf : FtV (fun b => b < w.heap.size) w fv x) (hb : ∀ c ∈ b, c < 256) (hm : b.length ≤ 1000000000) (hm2 : x.fg.length ≤ 1000000000) :
    Calls Tryd.prog 81 #[v, fv] w fun e w' => SpoilRet w (spoilL b x) e w' := by
  obtain ⟨af, cf, rfl, hf1⟩ := hf
  have HF := hid hf1; have HV := hid hv; have HB := hid hb
  obtain ⟨a, cap, rfl, q1, q2, _⟩ := hv.bytes
  clear hv hf1 hb
  by_cases k5 : x.k = 5
  · have h5 : (x.k == 5) = true := by simp; exact k5
    have h3 : (x.k == 3) = false := by rw [k5]; rfl
    have h4 : (x.k == 4) = false := by rw [k5]; rfl
    have HSP : Hd (spoilL b x = x.fg) := hid (by unfold spoilL; rw [if_pos k5])
    clear k5
    have hmk := run_make_row' (P := Tryd.prog) 22 5 (.int .u8 0) 1 Tryd.underlying22 infoU8 rfl .i64 .i64 x.fg.length (by omega) (by omega)
    generalize hbl : x.fg.length = n at *
    have HBL := hid hbl; clear hbl
    go_enter Tryd.func81, Tryd.ntmps81
    go_upto_region 1 with fail
    generalize hW : World.alloc w _ = W
    have BX : Hd (Blk W w.heap.size #[.int .i64 x.m, .int .i64 x.k, .int .i64 x.dl, .int .i64 x.a, .slice af n cf] 33) := hid (by rw [← hW]; exact blk_new _ _ _)
    have KW : Hd (Keeps (fun _ => False) w W) := hid (by rw [← hW]; exact keeps_alloc _ _ _)
    have zW := KW.out.size
    have zX := blk_lt BX.out
    clear hW
    have o1 : W.cell? ⟨w.heap.size, 1, none⟩ = some (.int .i64 x.k) := blk_cell BX.out 1
    have o4 : W.cell? ⟨w.heap.size, 4, none⟩ = some (.slice af n cf) := blk_cell BX.out 4
    go_upto_region 4 with fail
    generalize hW2 : World.alloc W _ = W2
    have BO : Hd (Blk W2 W.heap.size (madeCells #[.int .u8 0] n) 5) := hid (by rw [← hW2]; exact blk_new _ _ _)
    have KW2 : Hd (Keeps (fun _ => False) W W2) := hid (by rw [← hW2]; exact keeps_alloc _ _ _)
    clear hW2 o1 o4
    have SV : Hd (Sl (fun b => b < w.heap.size) W2 (.slice af n cf) (u8s x.fg)) := hid (HF.out.keep (KW.out.trans KW2.out) (fun _ _ _ h => h))
    have P1 := hid (show W2.heap[W.heap.size]? = some (.cells (madeCells #[.int .u8 0] n).toList.toArray 5 (0, 0)) by rw [Array.toArray_toList]; exact BO.out)
    have P2 := hid (show (u8s x.fg).length = Nat.min n n by rw [u8s_length, HBL.out]; exact (Nat.min_self n).symm)
    have P3 := hid (show 0 + (u8s x.fg).length ≤ (madeCells #[.int .u8 0] n).toList.length by rw [u8s_length, HBL.out]; simp [madeCells])
    have P4 : Hd (0 < (u8s x.fg).length → (some (⟨W.heap.size, 0, none⟩ : Addr)) = some ⟨W.heap.size, 0, none⟩ ∧ ∃ ad, af = some ad ∧ ∀ j v, (u8s x.fg)[j]? = some v → W2.cell? (ad.add j) = some v) := hid (by
      intro hp
      obtain ⟨a', cap', e1, _, _, hx⟩ := SV.out.bytes
      rw [u8s_length] at hp
      obtain ⟨bb, o, ea, _, _, hc⟩ := hx hp
      injection e1 with e1 _ _
      refine ⟨rfl, ⟨bb, o, none⟩, e1.trans ea, fun j u hu => ?_⟩
      have hj : j < x.fg.length := by have := (List.getElem?_eq_some_iff.1 hu).1; rw [u8s_length] at this; exact this
      have := hc j hj
      rw [show (⟨bb, o, none⟩ : Addr).add j = ⟨bb, o + j, none⟩ by unfold Addr.add; split <;> simp_all, this]
      rw [← u8s_getD _ _ hj, List.getD, hu]; rfl)
    go_wp2_with (with_reducible refine wpList_copy_splice rfl (.tmp 16) (.tmp 17) 22 22 rfl 5 Tryd.underlying22 infoU8s _ _ n n n cf rfl rfl W.heap.size 0 (madeCells #[.int .u8 0] n).toList 5 P1.out (u8s x.fg) P2.out P4.out P3.out (u8s_one _) W.heap.size W2 (Below.refl _ _) (Nat.le_refl _) ?_)
    intro w2 hg2 hb2
    have B2 : Hd (Blk w2 W.heap.size (u8s x.fg).toArray 5) := hid (by
      have := hg2.out; rw [splice_all (by rw [u8s_length, HBL.out]; simp [madeCells])] at this; exact this)
    have KB : Hd (Keeps (fun i => W.heap.size ≤ i) W2 w2) := hid (Keeps.of_below hb2)
    have BX2 : Hd (Blk w2 w.heap.size #[.int .i64 x.m, .int .i64 x.k, .int .i64 x.dl, .int .i64 x.a, .slice af n cf] 33) := hid (blk_keep (blk_keep BX.out KW2.out (fun h => h)) KB.out (by omega))
    have K2 : Hd (Keeps (fun _ => False) w w2) := hid ((KW.out.trans KW2.out).trans' KB.out (fun i hi h => by omega))
    have HOW : Hd (Own (fun i => w.heap.size ≤ i) w2 5 1 (.slice (some ⟨W.heap.size, 0, none⟩) n n) n (u8s x.fg)) := hid ⟨⟨by rw [u8s_length, HBL.out, Nat.mul_one], .inr ⟨W.heap.size, n, (u8s x.fg).toArray, rfl, Nat.zero_le _, B2.out, Nat.le_refl _, by unfold maxLen; omega, by simp [HBL.out], by simp only [Nat.mul_one]; rw [List.take_of_length_le (by rw [u8s_length, HBL.out]; exact Nat.le_refl _)]⟩⟩, fun i hi => by injection hi with hi; simp at hi; omega⟩
    clear hg2 hb2 P1 P2 P3 P4 BO SV KW2 KB B2 hmk
    have o1 : w2.cell? ⟨w.heap.size, 1, none⟩ = some (.int .i64 x.k) := blk_cell BX2.out 1
    have o3 : w2.cell? ⟨w.heap.size, 3, none⟩ = some (.int .i64 x.a) := blk_cell BX2.out 3
    have HR : Hd (SpoilRet w (spoilL b x) (.returned (.slice (some ⟨W.heap.size, 0, none⟩) n n)) w2) := hid (by
      rw [HSP.out]
      refine ⟨_, _, by rw [HBL.out], ?_, K2.out⟩
      have := own_take HOW.out n (Nat.le_refl _)
      rw [List.take_of_length_le (by rw [HBL.out]; exact Nat.le_refl _)] at this
      rw [HBL.out]; exact this)
    clear HOW
    go_wp2
    all_goals (go_ret; exact HR.out)
  · have h5 : (x.k == 5) = false := by simp; exact k5
    have hmk := run_make_row' (P := Tryd.prog) 22 5 (.int .u8 0) 1 Tryd.underlying22 infoU8 rfl .i64 .i64 b.length (by omega) (by omega)
    generalize hbl : b.length = n at *
    have HBL := hid hbl; clear hbl
    go_enter Tryd.func81, Tryd.ntmps81
    go_upto_region 1 with fail
    generalize hW : World.alloc w _ = W
    have BX : Hd (Blk W w.heap.size #[.int .i64 x.m, .int .i64 x.k, .int .i64 x.dl, .int .i64 x.a, .slice af x.fg.length cf] 33) := hid (by rw [← hW]; exact blk_new _ _ _)
    have KW : Hd (Keeps (fun _ => False) w W) := hid (by rw [← hW]; exact keeps_alloc _ _ _)
    have zW := KW.out.size
    have zX := blk_lt BX.out
    clear hW
    have o1 : W.cell? ⟨w.heap.size, 1, none⟩ = some (.int .i64 x.k) := blk_cell BX.out 1
    go_upto_region 4 with fail
    generalize hW2 : World.alloc W _ = W2
    have BO : Hd (Blk W2 W.heap.size (madeCells #[.int .u8 0] n) 5) := hid (by rw [← hW2]; exact blk_new _ _ _)
    have KW2 : Hd (Keeps (fun _ => False) W W2) := hid (by rw [← hW2]; exact keeps_alloc _ _ _)
    clear hW2 o1
    have SV : Hd (Sl (fun b => b < w.heap.size) W2 (.slice a n cap) (u8s b)) := hid (HV.out.keep (KW.out.trans KW2.out) (fun _ _ _ h => h))
    have P1 := hid (show W2.heap[W.heap.size]? = some (.cells (madeCells #[.int .u8 0] n).toList.toArray 5 (0, 0)) by rw [Array.toArray_toList]; exact BO.out)
    have P2 := hid (show (u8s b).length = Nat.min n n by rw [u8s_length, HBL.out]; exact (Nat.min_self n).symm)
    have P3 := hid (show 0 + (u8s b).length ≤ (madeCells #[.int .u8 0] n).toList.length by rw [u8s_length, HBL.out]; simp [madeCells])
    have P4 : Hd (0 < (u8s b).length → (some (⟨W.heap.size, 0, none⟩ : Addr)) = some ⟨W.heap.size, 0, none⟩ ∧ ∃ ad, a = some ad ∧ ∀ j v, (u8s b)[j]? = some v → W2.cell? (ad.add j) = some v) := hid (by
      intro hp
      obtain ⟨a', cap', e1, _, _, hx⟩ := SV.out.bytes
      rw [u8s_length] at hp
      obtain ⟨bb, o, ea, _, _, hc⟩ := hx hp
      injection e1 with e1 _ _
      refine ⟨rfl, ⟨bb, o, none⟩, e1.trans ea, fun j u hu => ?_⟩
      have hj : j < b.length := by have := (List.getElem?_eq_some_iff.1 hu).1; rw [u8s_length] at this; exact this
      have := hc j hj
      rw [show (⟨bb, o, none⟩ : Addr).add j = ⟨bb, o + j, none⟩ by unfold Addr.add; split <;> simp_all, this]
      rw [← u8s_getD _ _ hj, List.getD, hu]; rfl)
    go_wp2_with (with_reducible refine wpList_copy_splice rfl (.tmp 16) (.tmp 17) 22 22 rfl 5 Tryd.underlying22 infoU8s _ _ n n n cap rfl rfl W.heap.size 0 (madeCells #[.int .u8 0] n).toList 5 P1.out (u8s b) P2.out P4.out P3.out (u8s_one _) W.heap.size W2 (Below.refl _ _) (Nat.le_refl _) ?_)
    intro w2 hg2 hb2
    have B2 : Hd (Blk w2 W.heap.size (u8s b).toArray 5) := hid (by
      have := hg2.out; rw [splice_all (by rw [u8s_length, HBL.out]; simp [madeCells])] at this; exact this)
    have KB : Hd (Keeps (fun i => W.heap.size ≤ i) W2 w2) := hid (Keeps.of_below hb2)
    have BX2 : Hd (Blk w2 w.heap.size #[.int .i64 x.m, .int .i64 x.k, .int .i64 x.dl, .int .i64 x.a, .slice af x.fg.length cf] 33) := hid (blk_keep (blk_keep BX.out KW2.out (fun h => h)) KB.out (by omega))
    have K2 : Hd (Keeps (fun _ => False) w w2) := hid ((KW.out.trans KW2.out).trans' KB.out (fun i hi h => by omega))
    have HOW : Hd (Own (fun i => w.heap.size ≤ i) w2 5 1 (.slice (some ⟨W.heap.size, 0, none⟩) n n) n (u8s b)) := hid ⟨⟨by rw [u8s_length, HBL.out, Nat.mul_one], .inr ⟨W.heap.size, n, (u8s b).toArray, rfl, Nat.zero_le _, B2.out, Nat.le_refl _, by unfold maxLen; omega, by simp [HBL.out], by simp only [Nat.mul_one]; rw [List.take_of_length_le (by rw [u8s_length, HBL.out]; exact Nat.le_refl _)]⟩⟩, fun i hi => by injection hi with hi; simp at hi; omega⟩
    clear hg2 hb2 P1 P2 P3 P4 BO SV KW2 KB B2 hmk
    have o1 : w2.cell? ⟨w.heap.size, 1, none⟩ = some (.int .i64 x.k) := blk_cell BX2.out 1
    have o3 : w2.cell? ⟨w.heap.size, 3, none⟩ = some (.int .i64 x.a) := blk_cell BX2.out 3
    have HNE : Hd (n = 0 ↔ b = []) := hid (by rw [← HBL.out]; exact List.length_eq_zero_iff)
    by_cases k3 : x.k = 3
    · have h3 : (x.k == 3) = true := by simp; exact k3
      obtain ⟨j, hj⟩ : ∃ j, j = min n (max x.a 0).toNat := ⟨_, rfl⟩
      have HL : Hd (spoilL b x = b.take j) := hid (by
        unfold spoilL
        rw [if_neg k5, if_pos k3, hj, ← HBL.out]
        rcases Nat.le_total b.length (max x.a 0).toNat with h | h
        · rw [Nat.min_eq_left h, List.take_of_length_le h, List.take_length]
        · rw [Nat.min_eq_right h])
      have HR : Hd (SpoilRet w (spoilL b x) (.returned (.slice (some ⟨W.heap.size, 0, none⟩) j n)) w2) := hid (by
        have hlen : (b.take j).length = j := by rw [List.length_take, HBL.out]; omega
        refine ⟨_, _, by rw [HL.out, hlen], ?_, K2.out⟩
        rw [HL.out, hlen]
        exact own_take HOW.out j (by omega))
      clear k3 k5 HOW HL
      rcases (show (x.a < 0 ∧ j = 0) ∨ (0 ≤ x.a ∧ x.a < n ∧ (j : Int) = x.a) ∨ (0 ≤ x.a ∧ (n : Int) ≤ x.a ∧ j = n) by omega) with ⟨g1, g2⟩ | ⟨g1, g2, g3⟩ | ⟨g1, g2, g3⟩
      · subst g2
        clear hj
        rcases Nat.eq_zero_or_pos n with h0 | h0
        · subst h0
          go_wp2
          all_goals (go_ret; exact HR.out)
        · have n1 : (0 : Int) < n := by omega
          go_wp2
          all_goals (first | (go_ret; exact HR.out) | (exfalso; omega) | trace_state)
      · clear hj
        have g4 : x.a.toNat = j := by omega
        go_wp2
        all_goals (first | (go_ret; exact HR.out) | (exfalso; omega) | trace_state)
      · clear hj
        subst g3
        go_wp2
        all_goals (first | (go_ret; exact HR.out) | (exfalso; omega) | trace_state)
    · have h3 : (x.k == 3) = false := by simp; exact k3
      by_cases k4 : x.k = 4
      · have h4 : (x.k == 4) = true := by simp; exact k4
        by_cases hn0 : n = 0
        · have HR : Hd (SpoilRet w (spoilL b x) (.returned (.slice (some ⟨W.heap.size, 0, none⟩) n n)) w2) := hid (by
            have e : spoilL b x = b := by unfold spoilL; rw [if_neg k5, if_neg k3, if_neg (fun h => h.2 (HNE.out.1 hn0))]
            rw [e]
            refine ⟨_, _, by rw [HBL.out], ?_, K2.out⟩
            have := own_take HOW.out n (Nat.le_refl _)
            rw [List.take_of_length_le (by rw [HBL.out]; exact Nat.le_refl _)] at this
            rw [HBL.out]; exact this)
          clear k3 k4 k5 HOW HNE
          subst hn0
          go_wp2
          all_goals (go_ret; exact HR.out)
        · obtain ⟨z1, z2, z3⟩ := place_eq n x.a (by omega) (by omega)
          have HE : Hd (spoilL b x = b.set (gPlace n x.a) (255 - b.getD (gPlace n x.a) 0)) := hid (by
            unfold spoilL; rw [if_neg k5, if_neg k3, if_pos ⟨k4, fun h => hn0 (HNE.out.2 h)⟩, HBL.out])
          generalize gPlace n x.a = j at *
          have HC := hid (getD_lt HB.out j)
          have hc : w2.cell? ⟨W.heap.size, j, none⟩ = some (.int .u8 (b.getD j 0 : Nat)) := by
            rw [HOW.out.1.cellAt j (by omega), ← u8s_getD b j (by rw [HBL.out]; exact z3), List.getD, List.getElem?_eq_getElem (by rw [u8s_length, HBL.out]; exact z3)]; rfl
          have hf : w2.frozen? ⟨W.heap.size, j, none⟩ = false := HOW.out.1.frozenAt _
          have HST := hid (HOW.out.1.stored j (.int .u8 (255 - b.getD j 0 : Nat)))
          have HR : Hd (SpoilRet w (spoilL b x) (.returned (.slice (some ⟨W.heap.size, 0, none⟩) n n)) (w2.setCell ⟨W.heap.size, j, none⟩ (.int .u8 (255 - b.getD j 0 : Nat)))) := hid (by
            have hlen : (b.set j (255 - b.getD j 0)).length = n := by rw [List.length_set, HBL.out]
            have hu : (u8s b).set j (.int .u8 (255 - b.getD j 0 : Nat)) = u8s (b.set j (255 - b.getD j 0)) := by simp [u8s, List.map_set]
            have ho : Own (fun i => w.heap.size ≤ i) (w2.setCell ⟨W.heap.size, j, none⟩ (.int .u8 (255 - b.getD j 0 : Nat))) 5 1 (.slice (some ⟨W.heap.size, 0, none⟩) n n) n (u8s (b.set j (255 - b.getD j 0))) := ⟨by rw [← hu]; exact HST.out.1, HOW.out.2⟩
            have := own_take ho n (Nat.le_refl _)
            rw [List.take_of_length_le (by rw [hlen]; exact Nat.le_refl _)] at this
            rw [HE.out]
            refine ⟨_, _, by rw [hlen], by rw [hlen]; exact this, K2.out.trans' (keeps_set (fun k => w.heap.size ≤ k) w2 _ _ (by show w.heap.size ≤ W.heap.size; omega)) (fun i hi hs => by omega)⟩)
          clear k3 k4 k5 HOW HST HE HNE
          have n1 : (0 : Int) < n := by omega
          have n2 : ((n : Int) == 0) = false := by simp; omega
          generalize b.getD j 0 = c at *
          have HX := hid (not_u8 c HC.out)
          go_wp2
          all_goals (go_ret; rw [HX.out]; exact HR.out)
      · have h4 : (x.k == 4) = false := by simp; exact k4
        have HR : Hd (SpoilRet w (spoilL b x) (.returned (.slice (some ⟨W.heap.size, 0, none⟩) n n)) w2) := hid (by
          have e : spoilL b x = b := by unfold spoilL; rw [if_neg k5, if_neg k3, if_neg (fun h => k4 h.1)]
          rw [e]
          refine ⟨_, _, by rw [HBL.out], ?_, K2.out⟩
          have := own_take HOW.out n (Nat.le_refl _)
          rw [List.take_of_length_le (by rw [HBL.out]; exact Nat.le_refl _)] at this
          rw [HBL.out]; exact this)
        clear k3 k4 k5 HOW HNE
        go_wp2
        all_goals (go_ret; exact HR.out)
end Go.Proofs.YtgfekgceeigdiaaDoor.Li
namespace Go.Proofs.YtgfekgceeigdiaaDoor.Li
open Go.RowKit
attribute [local go_sem ↓] Go.wp_at_zero Go.wp_at_succ
theorem lit_src (w : World) (cs : List Value) (T : TypeId) : ∀ (j : Nat) (u : Value), cs[j]? = some u → (w.alloc (.cells cs.toArray T)).cell? ((⟨w.heap.size, 0, none⟩ : Addr).add j) = some u := by
  intro j u hu
  have h := blk_cell (blk_new w cs.toArray T) j
  unfold Addr.add
  split
  · rename_i h0; subst h0; rw [h]; simpa using hu
  · simp only [Nat.zero_add]; rw [h]; simpa using hu
/-- whether a flight stays ahead of another one -/
def fBefore (x y : Flt) : Bool := decide (y.t < x.t) || (y.t == x.t && decide (y.n ≤ x.n))
def putK (l : List Flt) (x : Flt) : Nat := (l.takeWhile (fBefore x)).length
def putL (l : List Flt) (x : Flt) : List Flt := l.take (putK l x) ++ x :: l.drop (putK l x)
theorem putK_at {l : List Flt} {x : Flt} : ∀ {k : Nat}, k ≤ l.length → (∀ i y, i < k → l[i]? = some y → fBefore x y = true) → (∀ y, l[k]? = some y → fBefore x y = false) → putK l x = k := by
  induction l with
  | nil => intro k hk _ _; simp at hk; subst hk; rfl
  | cons z l ih =>
    intro k hk h1 h2
    unfold putK at *
    cases k with
    | zero => have := h2 z rfl; simp [List.takeWhile, this]
    | succ k =>
      have h0 := h1 0 z (by omega) rfl
      have := ih (k := k) (by simpa using hk) (fun i y hi hy => h1 (i + 1) y (by omega) (by simpa using hy)) (fun y hy => h2 y (by simpa using hy))
      simp [List.takeWhile, h0, this]
theorem putK_le (l : List Flt) (x : Flt) : putK l x ≤ l.length := by
  unfold putK; exact List.Sublist.length_le (List.takeWhile_sublist _)
theorem putL_length (l : List Flt) (x : Flt) : (putL l x).length = l.length + 1 := by
  have := putK_le l x
  unfold putL; rw [List.length_append, List.length_cons, List.length_take, List.length_drop]; omega
def fltCells (x : Flt) (ad : Option Addr) (cd : Nat) : List Value := [.int .i64 x.t, .int .i64 x.n, .int .i64 x.f, .int .i64 x.g, .slice ad x.d.length cd]
def PutPost (w : World) (xs cx : List Value) (n k : Nat) (r : Ending) (w' : World) : Prop := ∃ a c, r = .returned (.slice a (n + 1) c) ∧ Own (fun b => w.heap.size ≤ b) w' 106 5 (.slice a (n + 1) c) (n + 1) (xs.take (k * 5) ++ cx ++ xs.drop (k * 5)) ∧ Keeps (fun _ => False) w w'
set_option maxRecDepth 100000 in set_option maxHeartbeats 1000000 in
theorem put_any (v : Value) (l : List Flt) (xs : List Value) (x : Flt) (ad : Option Addr) (cd : Nat) (w : World) (hrow : Row (fun b => b < w.heap.size) w 5 v l.length xs) (hone : ∀ u ∈ xs, u.oneCell' = true)
    (hcells : ∀ i y, l[i]? = some y → xs.getD (i * 5) undef = .int .i64 y.t ∧ xs.getD (i * 5 + 1) undef = .int .i64 y.n) (hm : l.length ≤ 1000000) :
    Calls Tryd.prog 80 #[v, .agg #[.int .i64 x.t, .int .i64 x.n, .int .i64 x.f, .int .i64 x.g, .slice ad x.d.length cd]] w fun e w' => PutPost w xs (fltCells x ad cd) l.length (putK l x) e w' := by
  obtain ⟨i0, z, hi, hz0, hz1, hz2, hz3⟩ := fl_parts
  have HCE := hid hcells; have HONE := hid hone; have HROW := hid hrow
  obtain ⟨a, cap, rfl, hcap, hcm, hel⟩ := hrow.form
  have HEL := hid hel
  unfold maxLen at hcm
  clear hcells hone hrow hel
  generalize hll : l.length = m at *
  have HLL := hid hll; clear hll
  go_enter Tryd.func80, Tryd.ntmps80
  go_upto_region 1 with fail
  generalize hW : World.alloc w _ = W
  have BX : Hd (Blk W w.heap.size #[.int .i64 x.t, .int .i64 x.n, .int .i64 x.f, .int .i64 x.g, .slice ad x.d.length cd] 106) := hid (by rw [← hW]; exact blk_new _ _ _)
  have KW : Hd (Keeps (fun _ => False) w W) := hid (by rw [← hW]; exact keeps_alloc _ _ _)
  clear hW
  go_wp2_with fail
  go_loopw [5] (fun i wr => ∃ k : Nat, i = .int .i64 k ∧ k ≤ m ∧ Hd (∀ i y, i < k → l[i]? = some y → fBefore x y = true) ∧ Hd (Drawn W wr)) (fun i _ => m - (intOf i).toNat)
  case atStart => exact ⟨0, rfl, Nat.zero_le _, hid (fun i y hi => by omega), hid (Drawn.refl _)⟩
  case round =>
    obtain ⟨k, rfl, hk, HBE, HD⟩ := hrel
    have zR : w.heap.size < W.heap.size := blk_lt BX.out
    by_cases hkm : k < m
    · obtain ⟨b, off, rfl, hb1, hb2, hcell⟩ := HEL.out (by omega)
      clear HEL
      obtain ⟨y, hy⟩ : ∃ y, l[k]? = some y := ⟨l[k]'(by rw [HLL.out]; exact hkm), List.getElem?_eq_getElem _⟩
      obtain ⟨t0, t1⟩ := HCE.out k y hy
      have HXK := hid hy
      have o0 : wr.cell? ⟨w.heap.size, 0, none⟩ = some (.int .i64 x.t) := HD.out.cell (blk_cell BX.out 0)
      have o1 : wr.cell? ⟨w.heap.size, 1, none⟩ = some (.int .i64 x.n) := HD.out.cell (blk_cell BX.out 1)
      have f0 : wr.cell? ⟨b, off + k * 5, none⟩ = some (.int .i64 y.t) := HD.out.cell (keep_cell KW.out (fun h => h) ((hcell (k * 5) (by omega)).trans (congrArg some t0)))
      have f1 : wr.cell? ⟨b, off + k * 5 + 1, none⟩ = some (.int .i64 y.n) := HD.out.cell (keep_cell KW.out (fun h => h) ((hcell (k * 5 + 1) (by omega)).trans (congrArg some t1)))
      have k1 : (k : Int) < m := by omega
      have k2 : (0 : Int) ≤ k := by omega
      clear t0 t1 hy
      by_cases e1 : y.t < x.t
      · have d1 : decide (y.t < x.t) = true := by simp; exact e1
        have HF : Hd (fBefore x y = true) := hid (by simp [fBefore, e1])
        clear e1
        go_upto_region 2 with fail
        go_quiet (fail)
        go_wp2
        go_roundw
        case rel =>
          refine ⟨k + 1, by go_num, by omega, hid (fun i y' hi hy' => ?_), hid (by first | exact HD.out | exact drawn_n HD.out _ | exact drawn_1 HD.out)⟩
          rcases Nat.lt_or_ge i k with h | h
          · exact HBE.out i y' h hy'
          · obtain rfl : i = k := by omega
            rw [HXK.out] at hy'; injection hy' with hy'; subst hy'
            exact HF.out
        case measure => simp [intOf]; omega
      · have d1 : decide (y.t < x.t) = false := by simp; omega
        by_cases e2 : y.t = x.t
        · have d2 : (y.t == x.t) = true := by simp; exact e2
          by_cases e3 : y.n ≤ x.n
          · have d3 : decide (y.n ≤ x.n) = true := by simp; exact e3
            have HF : Hd (fBefore x y = true) := hid (by simp [fBefore, e2, e3])
            clear e1 e2 e3
            go_upto_region 2 with fail
            go_quiet (fail)
            go_wp2
            go_roundw
            case rel =>
              refine ⟨k + 1, by go_num, by omega, hid (fun i y' hi hy' => ?_), hid (by first | exact HD.out | exact drawn_n HD.out _ | exact drawn_1 HD.out)⟩
              rcases Nat.lt_or_ge i k with h | h
              · exact HBE.out i y' h hy'
              · obtain rfl : i = k := by omega
                rw [HXK.out] at hy'; injection hy' with hy'; subst hy'
                exact HF.out
            case measure => simp [intOf]; omega
          · have d3 : decide (y.n ≤ x.n) = false := by simp; omega
            have HF : Hd (fBefore x y = false) := hid (by simp [fBefore, e2, e3])
            clear e1 e2 e3
            have HPK : Hd (putK l x = k) := hid (putK_at (by rw [HLL.out]; omega) HBE.out (fun y' hy' => by rw [HXK.out] at hy'; injection hy' with hy'; subst hy'; exact HF.out))
            clear HBE
            go_upto_region 2 with fail
            go_quiet (fail)
            go_upto_region 4 with fail
            clear hcell o0 o1 f0 f1
            have HR1 := hid (HROW.out.keep (KW.out.trans (drawn_keeps _ HD.out)) (fun _ _ _ h => h))
            obtain ⟨a1, hcut1, hr1⟩ := run_cut_full (P := Tryd.prog) (t := 46) Tryd.underlying46 hi hz1 HR1.out k hk
            obtain ⟨a2, c2, hcut2, hr2⟩ := run_cut_from (P := Tryd.prog) (t := 46) Tryd.underlying46 hi hz1 HR1.out (lo := (k : Int)) k rfl hk
            have Q1 := hid hr1; have Q2 := hid hr2
            have ONE1 : Hd (∀ u ∈ (xs.drop (k * 5)).take ((m - k) * 5), u.oneCell' = true) := hid (fun u hu => HONE.out u (List.mem_of_mem_drop (List.mem_of_mem_take hu)))
            have L5 : Hd (Keeps (fun _ => False) wr wr) := hid (Keeps.refl _ _)
            have BXR := hid (blk_keep BX.out (drawn_keeps (fun _ => False) HD.out) (fun h => h))
            have HSS : Hd (∀ w', Keeps (fun _ => False) wr w' → (w'.cell? ⟨w.heap.size, 0, none⟩ = some (.int .i64 x.t) ∧ w'.cell? ⟨w.heap.size, 1, none⟩ = some (.int .i64 x.n) ∧ w'.cell? ⟨w.heap.size, 2, none⟩ = some (.int .i64 x.f) ∧ w'.cell? ⟨w.heap.size, 3, none⟩ = some (.int .i64 x.g) ∧ w'.cell? ⟨w.heap.size, 4, none⟩ = some (.slice ad x.d.length cd))) := hid (fun w' hk => by
              have := blk_keep BXR.out hk (fun h => h)
              exact ⟨blk_cell this 0, blk_cell this 1, blk_cell this 2, blk_cell this 3, blk_cell this 4⟩)
            have KWR : Hd (Keeps (fun _ => False) w wr) := hid (KW.out.trans (drawn_keeps _ HD.out))
            clear hr1 hr2 HR1 BXR HD
            go_region_held_law (fun w' => w'.cell? ⟨w.heap.size, 0, none⟩ = some (.int .i64 x.t) ∧ w'.cell? ⟨w.heap.size, 1, none⟩ = some (.int .i64 x.n) ∧ w'.cell? ⟨w.heap.size, 2, none⟩ = some (.int .i64 x.f) ∧ w'.cell? ⟨w.heap.size, 3, none⟩ = some (.int .i64 x.g) ∧ w'.cell? ⟨w.heap.size, 4, none⟩ = some (.slice ad x.d.length cd)) ((refine HSS.out _ ?_; repeat (first | (with_reducible exact K7.out) | (with_reducible exact K6.out) | (with_reducible exact (L5.out.mono (fun _ _ h => h.elim))) | (with_reducible exact Keeps.refl _ _) | (with_reducible apply Keeps.drewN) | (with_reducible apply Keeps.drew) | (with_reducible apply Keeps.alloc))))
              (first
              | (refine step_append_full rfl (.tmp 45) (.tmp 47) 46 rfl 106 i0 z 5 56 Tryd.underlying46 hi hz0 hz1 hz2 hz3 (by decide) (fun b => b < w.heap.size) a1 k _ (by simp [Act.eval, Act.put]) (Q1.out.keep (S := fun _ => False) (by repeat (first | (with_reducible exact L5.out) | (with_reducible exact Keeps.refl _ _) | (with_reducible apply Keeps.drewN) | (with_reducible apply Keeps.drew) | (with_reducible apply Keeps.alloc))) (fun _ _ _ h => h)) ⟨wr.heap.size, 0, none⟩ 1 1 (fltCells x ad cd) (by simp [Act.eval, Act.put]) rfl (by exact lit_src _ _ _) (by intro u hu; simp [fltCells] at hu; rcases hu with rfl | rfl | rfl | rfl | rfl <;> rfl) (by omega) (by simp [maxLen]; omega) (by omega) ?_; intro a6 c6 w6 hown6 hk6; have HO6 := hid (hown6.mono (K' := fun b => wr.heap.size ≤ b) (fun b _ h => Nat.le_trans (Keeps.size (S := fun _ => False) (w := wr) (by repeat (first | (with_reducible exact L5.out) | (with_reducible exact Keeps.refl _ _) | (with_reducible apply Keeps.drewN) | (with_reducible apply Keeps.drew) | (with_reducible apply Keeps.alloc)))) h)); have K6 : Hd (Keeps (fun _ => False) wr w6) := hid (Keeps.trans (S := fun _ => False) (by repeat (first | (with_reducible exact L5.out) | (with_reducible exact Keeps.refl _ _) | (with_reducible apply Keeps.drewN) | (with_reducible apply Keeps.drew) | (with_reducible apply Keeps.alloc))) hk6); clear hown6 hk6)
              | (refine step_append_own_row rfl (.tmp 48) (.tmp 51) 46 rfl 106 i0 z 5 56 Tryd.underlying46 hi hz0 hz1 hz2 hz3 (by decide) _ (fun b => b < w.heap.size) (.slice a6 (k + 1) c6) (.slice a2 (m - k) c2) (k + 1) _ (by simp [Act.eval, Act.put]) HO6.out (m - k) _ (by simp [Act.eval, Act.put]) (Q2.out.keep K6.out (fun _ _ _ h => h)) ONE1.out (by simp [maxLen]; omega) (by omega) ?_; intro a7 c7 w7 hown7 hk7; have HO7 := hid hown7; have K7 : Hd (Keeps (fun _ => False) wr w7) := hid (K6.out.trans' hk7 (fun i hi h => by omega)); clear hown7 hk7))
            simp only [List.getElem_toArray, List.getElem_cons_succ, List.getElem_cons_zero, List.setIfInBounds_toArray, List.set_cons_zero, List.set_cons_succ]
            have HR : Hd (PutPost w xs (fltCells x ad cd) m (putK l x) (.returned (.slice a7 (k + 1 + (m - k)) c7)) w7) := hid (by
              have e1 : k + 1 + (m - k) = m + 1 := by omega
              have e2 : (xs.drop (k * 5)).take ((m - k) * 5) = xs.drop (k * 5) := List.take_of_length_le (by rw [List.length_drop, HROW.out.1]; omega)
              have e3 := HO7.out
              rw [e1, e2] at e3
              have zR := KWR.out.size
              have z6 := K6.out.size
              rw [HPK.out, e1]
              exact ⟨a7, c7, rfl, e3.mono (fun b _ h => by rcases h with h | h <;> omega), KWR.out.trans K7.out⟩)
            clear HO7 HO6
            go_wp2
            go_ret
            exact HR.out
        · have d2 : (y.t == x.t) = false := by simp; exact e2
          have HF : Hd (fBefore x y = false) := hid (by simp [fBefore, e1, e2])
          clear e1 e2
          have HPK : Hd (putK l x = k) := hid (putK_at (by rw [HLL.out]; omega) HBE.out (fun y' hy' => by rw [HXK.out] at hy'; injection hy' with hy'; subst hy'; exact HF.out))
          clear HBE
          go_upto_region 2 with fail
          go_quiet (fail)
          go_upto_region 4 with fail
          clear hcell o0 o1 f0 f1
          have HR1 := hid (HROW.out.keep (KW.out.trans (drawn_keeps _ HD.out)) (fun _ _ _ h => h))
          obtain ⟨a1, hcut1, hr1⟩ := run_cut_full (P := Tryd.prog) (t := 46) Tryd.underlying46 hi hz1 HR1.out k hk
          obtain ⟨a2, c2, hcut2, hr2⟩ := run_cut_from (P := Tryd.prog) (t := 46) Tryd.underlying46 hi hz1 HR1.out (lo := (k : Int)) k rfl hk
          have Q1 := hid hr1; have Q2 := hid hr2
          have ONE1 : Hd (∀ u ∈ (xs.drop (k * 5)).take ((m - k) * 5), u.oneCell' = true) := hid (fun u hu => HONE.out u (List.mem_of_mem_drop (List.mem_of_mem_take hu)))
          have L5 : Hd (Keeps (fun _ => False) wr wr) := hid (Keeps.refl _ _)
          have BXR := hid (blk_keep BX.out (drawn_keeps (fun _ => False) HD.out) (fun h => h))
          have HSS : Hd (∀ w', Keeps (fun _ => False) wr w' → (w'.cell? ⟨w.heap.size, 0, none⟩ = some (.int .i64 x.t) ∧ w'.cell? ⟨w.heap.size, 1, none⟩ = some (.int .i64 x.n) ∧ w'.cell? ⟨w.heap.size, 2, none⟩ = some (.int .i64 x.f) ∧ w'.cell? ⟨w.heap.size, 3, none⟩ = some (.int .i64 x.g) ∧ w'.cell? ⟨w.heap.size, 4, none⟩ = some (.slice ad x.d.length cd))) := hid (fun w' hk => by
            have := blk_keep BXR.out hk (fun h => h)
            exact ⟨blk_cell this 0, blk_cell this 1, blk_cell this 2, blk_cell this 3, blk_cell this 4⟩)
          have KWR : Hd (Keeps (fun _ => False) w wr) := hid (KW.out.trans (drawn_keeps _ HD.out))
          clear hr1 hr2 HR1 BXR HD
          go_region_held_law (fun w' => w'.cell? ⟨w.heap.size, 0, none⟩ = some (.int .i64 x.t) ∧ w'.cell? ⟨w.heap.size, 1, none⟩ = some (.int .i64 x.n) ∧ w'.cell? ⟨w.heap.size, 2, none⟩ = some (.int .i64 x.f) ∧ w'.cell? ⟨w.heap.size, 3, none⟩ = some (.int .i64 x.g) ∧ w'.cell? ⟨w.heap.size, 4, none⟩ = some (.slice ad x.d.length cd)) ((refine HSS.out _ ?_; repeat (first | (with_reducible exact K7.out) | (with_reducible exact K6.out) | (with_reducible exact (L5.out.mono (fun _ _ h => h.elim))) | (with_reducible exact Keeps.refl _ _) | (with_reducible apply Keeps.drewN) | (with_reducible apply Keeps.drew) | (with_reducible apply Keeps.alloc))))
            (first
            | (refine step_append_full rfl (.tmp 45) (.tmp 47) 46 rfl 106 i0 z 5 56 Tryd.underlying46 hi hz0 hz1 hz2 hz3 (by decide) (fun b => b < w.heap.size) a1 k _ (by simp [Act.eval, Act.put]) (Q1.out.keep (S := fun _ => False) (by repeat (first | (with_reducible exact L5.out) | (with_reducible exact Keeps.refl _ _) | (with_reducible apply Keeps.drewN) | (with_reducible apply Keeps.drew) | (with_reducible apply Keeps.alloc))) (fun _ _ _ h => h)) ⟨wr.heap.size, 0, none⟩ 1 1 (fltCells x ad cd) (by simp [Act.eval, Act.put]) rfl (by exact lit_src _ _ _) (by intro u hu; simp [fltCells] at hu; rcases hu with rfl | rfl | rfl | rfl | rfl <;> rfl) (by omega) (by simp [maxLen]; omega) (by omega) ?_; intro a6 c6 w6 hown6 hk6; have HO6 := hid (hown6.mono (K' := fun b => wr.heap.size ≤ b) (fun b _ h => Nat.le_trans (Keeps.size (S := fun _ => False) (w := wr) (by repeat (first | (with_reducible exact L5.out) | (with_reducible exact Keeps.refl _ _) | (with_reducible apply Keeps.drewN) | (with_reducible apply Keeps.drew) | (with_reducible apply Keeps.alloc)))) h)); have K6 : Hd (Keeps (fun _ => False) wr w6) := hid (Keeps.trans (S := fun _ => False) (by repeat (first | (with_reducible exact L5.out) | (with_reducible exact Keeps.refl _ _) | (with_reducible apply Keeps.drewN) | (with_reducible apply Keeps.drew) | (with_reducible apply Keeps.alloc))) hk6); clear hown6 hk6)
            | (refine step_append_own_row rfl (.tmp 48) (.tmp 51) 46 rfl 106 i0 z 5 56 Tryd.underlying46 hi hz0 hz1 hz2 hz3 (by decide) _ (fun b => b < w.heap.size) (.slice a6 (k + 1) c6) (.slice a2 (m - k) c2) (k + 1) _ (by simp [Act.eval, Act.put]) HO6.out (m - k) _ (by simp [Act.eval, Act.put]) (Q2.out.keep K6.out (fun _ _ _ h => h)) ONE1.out (by simp [maxLen]; omega) (by omega) ?_; intro a7 c7 w7 hown7 hk7; have HO7 := hid hown7; have K7 : Hd (Keeps (fun _ => False) wr w7) := hid (K6.out.trans' hk7 (fun i hi h => by omega)); clear hown7 hk7))
          simp only [List.getElem_toArray, List.getElem_cons_succ, List.getElem_cons_zero, List.setIfInBounds_toArray, List.set_cons_zero, List.set_cons_succ]
          have HR : Hd (PutPost w xs (fltCells x ad cd) m (putK l x) (.returned (.slice a7 (k + 1 + (m - k)) c7)) w7) := hid (by
            have e1 : k + 1 + (m - k) = m + 1 := by omega
            have e2 : (xs.drop (k * 5)).take ((m - k) * 5) = xs.drop (k * 5) := List.take_of_length_le (by rw [List.length_drop, HROW.out.1]; omega)
            have e3 := HO7.out
            rw [e1, e2] at e3
            have zR := KWR.out.size
            have z6 := K6.out.size
            rw [HPK.out, e1]
            exact ⟨a7, c7, rfl, e3.mono (fun b _ h => by rcases h with h | h <;> omega), KWR.out.trans K7.out⟩)
          clear HO7 HO6
          go_wp2
          go_ret
          exact HR.out
    · have hkm2 : k = m := by omega
      have HPK : Hd (putK l x = k) := hid (putK_at (by rw [HLL.out]; omega) HBE.out (fun y hy => by rw [List.getElem?_eq_none (by rw [HLL.out]; omega)] at hy; cases hy))
      have k0 : ¬ ((k : Int) < m) := by omega
      clear hkm hkm2 HBE HEL
      go_upto_region 2 with fail
      go_quiet (fail)
      go_upto_region 4 with fail
      have HR1 := hid (HROW.out.keep (KW.out.trans (drawn_keeps _ HD.out)) (fun _ _ _ h => h))
      obtain ⟨a1, hcut1, hr1⟩ := run_cut_full (P := Tryd.prog) (t := 46) Tryd.underlying46 hi hz1 HR1.out k hk
      obtain ⟨a2, c2, hcut2, hr2⟩ := run_cut_from (P := Tryd.prog) (t := 46) Tryd.underlying46 hi hz1 HR1.out (lo := (k : Int)) k rfl hk
      have Q1 := hid hr1; have Q2 := hid hr2
      have ONE1 : Hd (∀ u ∈ (xs.drop (k * 5)).take ((m - k) * 5), u.oneCell' = true) := hid (fun u hu => HONE.out u (List.mem_of_mem_drop (List.mem_of_mem_take hu)))
      have L5 : Hd (Keeps (fun _ => False) wr wr) := hid (Keeps.refl _ _)
      have BXR := hid (blk_keep BX.out (drawn_keeps (fun _ => False) HD.out) (fun h => h))
      have HSS : Hd (∀ w', Keeps (fun _ => False) wr w' → (w'.cell? ⟨w.heap.size, 0, none⟩ = some (.int .i64 x.t) ∧ w'.cell? ⟨w.heap.size, 1, none⟩ = some (.int .i64 x.n) ∧ w'.cell? ⟨w.heap.size, 2, none⟩ = some (.int .i64 x.f) ∧ w'.cell? ⟨w.heap.size, 3, none⟩ = some (.int .i64 x.g) ∧ w'.cell? ⟨w.heap.size, 4, none⟩ = some (.slice ad x.d.length cd))) := hid (fun w' hk => by
        have := blk_keep BXR.out hk (fun h => h)
        exact ⟨blk_cell this 0, blk_cell this 1, blk_cell this 2, blk_cell this 3, blk_cell this 4⟩)
      have KWR : Hd (Keeps (fun _ => False) w wr) := hid (KW.out.trans (drawn_keeps _ HD.out))
      clear hr1 hr2 HR1 BXR HD
      go_region_held_law (fun w' => w'.cell? ⟨w.heap.size, 0, none⟩ = some (.int .i64 x.t) ∧ w'.cell? ⟨w.heap.size, 1, none⟩ = some (.int .i64 x.n) ∧ w'.cell? ⟨w.heap.size, 2, none⟩ = some (.int .i64 x.f) ∧ w'.cell? ⟨w.heap.size, 3, none⟩ = some (.int .i64 x.g) ∧ w'.cell? ⟨w.heap.size, 4, none⟩ = some (.slice ad x.d.length cd)) ((refine HSS.out _ ?_; repeat (first | (with_reducible exact K7.out) | (with_reducible exact K6.out) | (with_reducible exact (L5.out.mono (fun _ _ h => h.elim))) | (with_reducible exact Keeps.refl _ _) | (with_reducible apply Keeps.drewN) | (with_reducible apply Keeps.drew) | (with_reducible apply Keeps.alloc))))
        (first
        | (refine step_append_full rfl (.tmp 45) (.tmp 47) 46 rfl 106 i0 z 5 56 Tryd.underlying46 hi hz0 hz1 hz2 hz3 (by decide) (fun b => b < w.heap.size) a1 k _ (by simp [Act.eval, Act.put]) (Q1.out.keep (S := fun _ => False) (by repeat (first | (with_reducible exact L5.out) | (with_reducible exact Keeps.refl _ _) | (with_reducible apply Keeps.drewN) | (with_reducible apply Keeps.drew) | (with_reducible apply Keeps.alloc))) (fun _ _ _ h => h)) ⟨wr.heap.size, 0, none⟩ 1 1 (fltCells x ad cd) (by simp [Act.eval, Act.put]) rfl (by exact lit_src _ _ _) (by intro u hu; simp [fltCells] at hu; rcases hu with rfl | rfl | rfl | rfl | rfl <;> rfl) (by omega) (by simp [maxLen]; omega) (by omega) ?_; intro a6 c6 w6 hown6 hk6; have HO6 := hid (hown6.mono (K' := fun b => wr.heap.size ≤ b) (fun b _ h => Nat.le_trans (Keeps.size (S := fun _ => False) (w := wr) (by repeat (first | (with_reducible exact L5.out) | (with_reducible exact Keeps.refl _ _) | (with_reducible apply Keeps.drewN) | (with_reducible apply Keeps.drew) | (with_reducible apply Keeps.alloc)))) h)); have K6 : Hd (Keeps (fun _ => False) wr w6) := hid (Keeps.trans (S := fun _ => False) (by repeat (first | (with_reducible exact L5.out) | (with_reducible exact Keeps.refl _ _) | (with_reducible apply Keeps.drewN) | (with_reducible apply Keeps.drew) | (with_reducible apply Keeps.alloc))) hk6); clear hown6 hk6)
        | (refine step_append_own_row rfl (.tmp 48) (.tmp 51) 46 rfl 106 i0 z 5 56 Tryd.underlying46 hi hz0 hz1 hz2 hz3 (by decide) _ (fun b => b < w.heap.size) (.slice a6 (k + 1) c6) (.slice a2 (m - k) c2) (k + 1) _ (by simp [Act.eval, Act.put]) HO6.out (m - k) _ (by simp [Act.eval, Act.put]) (Q2.out.keep K6.out (fun _ _ _ h => h)) ONE1.out (by simp [maxLen]; omega) (by omega) ?_; intro a7 c7 w7 hown7 hk7; have HO7 := hid hown7; have K7 : Hd (Keeps (fun _ => False) wr w7) := hid (K6.out.trans' hk7 (fun i hi h => by omega)); clear hown7 hk7))
      simp only [List.getElem_toArray, List.getElem_cons_succ, List.getElem_cons_zero, List.setIfInBounds_toArray, List.set_cons_zero, List.set_cons_succ]
      have HR : Hd (PutPost w xs (fltCells x ad cd) m (putK l x) (.returned (.slice a7 (k + 1 + (m - k)) c7)) w7) := hid (by
        have e1 : k + 1 + (m - k) = m + 1 := by omega
        have e2 : (xs.drop (k * 5)).take ((m - k) * 5) = xs.drop (k * 5) := List.take_of_length_le (by rw [List.length_drop, HROW.out.1]; omega)
        have e3 := HO7.out
        rw [e1, e2] at e3
        have zR := KWR.out.size
        have z6 := K6.out.size
        rw [HPK.out, e1]
        exact ⟨a7, c7, rfl, e3.mono (fun b _ h => by rcases h with h | h <;> omega), KWR.out.trans K7.out⟩)
      clear HO7 HO6
      go_wp2
      go_ret
      exact HR.out
end Go.Proofs.YtgfekgceeigdiaaDoor.Li
namespace Go.Proofs.YtgfekgceeigdiaaDoor.Li
open Go.RowKit
attribute [local go_sem ↓] Go.wp_at_zero Go.wp_at_succ
theorem FlCells.congr {K : Nat → Prop} {w : World} {c c' : Nat → Value} {x : Flt} (h : FlCells K w c x) (e : ∀ j, j < 5 → c' j = c j) : FlCells K w c' x := by
  obtain ⟨h0, h1, h2, h3, h4⟩ := h
  refine ⟨(e 0 (by omega)).trans h0, (e 1 (by omega)).trans h1, (e 2 (by omega)).trans h2, (e 3 (by omega)).trans h3, ?_⟩
  rw [e 4 (by omega)]; exact h4
theorem getD_put {xs cx : List Value} {k m i j : Nat} (hx : xs.length = m * 5) (hc : cx.length = 5) (hk : k ≤ m) (hj : j < 5) :
    (xs.take (k * 5) ++ cx ++ xs.drop (k * 5)).getD (i * 5 + j) undef = if i < k then xs.getD (i * 5 + j) undef else if i = k then cx.getD j undef else xs.getD ((i - 1) * 5 + j) undef := by
  have ht : (xs.take (k * 5)).length = k * 5 := by rw [List.length_take]; omega
  unfold List.getD
  split
  · rename_i h
    rw [List.append_assoc, List.getElem?_append_left (by omega), List.getElem?_take, if_pos (by omega)]
  · rename_i h
    split
    · rename_i h2
      subst h2
      rw [List.append_assoc, List.getElem?_append_right (by omega), ht, List.getElem?_append_left (by omega)]
      congr 2; omega
    · rename_i h2
      rw [List.getElem?_append_right (by rw [List.length_append]; omega), List.length_append, ht, hc, List.getElem?_drop]
      congr 2; omega
theorem putL_get {l : List Flt} {x y : Flt} {i : Nat} (h : (putL l x)[i]? = some y) : (i < putK l x ∧ l[i]? = some y) ∨ (i = putK l x ∧ x = y) ∨ (putK l x < i ∧ l[i - 1]? = some y) := by
  have hk := putK_le l x
  unfold putL at h
  generalize putK l x = k at *
  have ht : (l.take k).length = k := by rw [List.length_take]; omega
  rcases Nat.lt_trichotomy i k with hi | hi | hi
  · left
    rw [List.getElem?_append_left (by omega), List.getElem?_take, if_pos hi] at h
    exact ⟨hi, h⟩
  · right; left
    rw [List.getElem?_append_right (by omega), ht, hi, Nat.sub_self] at h
    exact ⟨hi, by simpa using h⟩
  · right; right
    rw [List.getElem?_append_right (by omega), ht, List.getElem?_cons, if_neg (by omega), List.getElem?_drop] at h
    refine ⟨hi, ?_⟩
    rw [show i - 1 = k + (i - k - 1) by omega]; exact h
def PutFl (K : Nat → Prop) (w : World) (l : List Flt) (x : Flt) (r : Ending) (w' : World) : Prop := ∃ a c xs, r = .returned (.slice a (l.length + 1) c) ∧ Own (fun b => w.heap.size ≤ b) w' 106 5 (.slice a (l.length + 1) c) (putL l x).length xs ∧
  (∀ i y, (putL l x)[i]? = some y → FlCells (fun b => K b ∧ b < w.heap.size) w' (fun j => xs.getD (i * 5 + j) undef) y) ∧ Keeps (fun _ => False) w w'
theorem put_fl (K : Nat → Prop) (v : Value) (l : List Flt) (x : Flt) (ad : Option Addr) (cd : Nat) (w : World) (hl : Fls K w v l) (hx : Sl K w (.slice ad x.d.length cd) (u8s x.d)) (hm : l.length ≤ 1000000) :
    Calls Tryd.prog 80 #[v, .agg #[.int .i64 x.t, .int .i64 x.n, .int .i64 x.f, .int .i64 x.g, .slice ad x.d.length cd]] w fun e w' => PutFl K w l x e w' := by
  obtain ⟨xs, hrow, hcells⟩ := hl
  refine (put_any v l xs x ad cd w (hrow.mono (fun b h _ => h)) (fl_one (by have := hrow.1; omega) hcells) (fun i y hi => ⟨(hcells i y hi).1, (hcells i y hi).2.1⟩) hm).mono ?_
  rintro e w' ⟨a, c, rfl, ho, hk⟩
  have hlen := putL_length l x
  refine ⟨a, c, _, rfl, by rw [hlen]; exact ho, fun i y hy => ?_, hk⟩
  have hsz : ∀ {c : Nat → Value} {x : Flt}, FlCells K w c x → FlCells (fun b => K b ∧ b < w.heap.size) w' c x := fun h =>
    (FlCells.keep ⟨h.1, h.2.1, h.2.2.1, h.2.2.2.1, h.2.2.2.2.mono (K' := fun b => K b ∧ b < w.heap.size) (fun b h1 h2 => ⟨h2, h1⟩)⟩ hk (fun _ _ _ h => h))
  have hg : ∀ j, j < 5 → _ := fun j hj => getD_put (xs := xs) (cx := fltCells x ad cd) (k := putK l x) (m := l.length) (i := i) (j := j) hrow.1 rfl (putK_le l x) hj
  rcases putL_get hy with ⟨h1, h2⟩ | ⟨h1, rfl⟩ | ⟨h1, h2⟩
  · exact (hsz (hcells i y h2)).congr (fun j hj => by rw [hg j hj, if_pos h1])
  · exact (hsz (c := fun j => (fltCells x ad cd).getD j undef) ⟨rfl, rfl, rfl, rfl, hx⟩).congr (fun j hj => by rw [hg j hj, if_neg (by omega), if_pos h1])
  · exact (hsz (hcells (i - 1) y h2)).congr (fun j hj => by rw [hg j hj, if_neg (by omega), if_neg (by omega)])
theorem PutFl.flo {B : Nat} {w w' : World} {l : List Flt} {x : Flt} {r : Ending} (h : PutFl (fun b => B ≤ b) w l x r w') (hB : B ≤ w.heap.size) : ∃ a c, r = .returned (.slice a (l.length + 1) c) ∧ FlO B w' (.slice a (l.length + 1) c) (putL l x) ∧ Keeps (fun _ => False) w w' := by
  obtain ⟨a, c, xs, rfl, ho, hc, hk⟩ := h
  have hge : ∀ b, (Value.slice a (l.length + 1) c).ownBlock = some b → w.heap.size ≤ b := ho.2
  refine ⟨a, c, rfl, ⟨xs, ⟨ho.1, fun _ h => h⟩, fun b hb => Nat.le_trans hB (hge b hb), fun i y hy => (hc i y hy).mono (fun b _ h => ⟨h.1, fun hb => ?_⟩)⟩, hk⟩
  have := hge b hb; omega
/-- a list of fates -/
def Ft.fl (x : Ft) : Flt := ⟨x.m, x.k, x.dl, x.a, x.fg⟩
def Fts (K : Nat → Prop) (w : World) (v : Value) (l : List Ft) : Prop := Fls K w v (l.map Ft.fl)
def Ft.nil : Ft := ⟨0, 0, 0, 0, []⟩
def fateL (l : List Ft) (c : Int) : Ft := (l.find? (fun x => x.m == c)).getD Ft.nil
theorem fate_at {l : List Ft} {c : Int} : ∀ {k : Nat} {x : Ft}, (∀ i y, i < k → l[i]? = some y → (y.m == c) = false) → l[k]? = some x → (x.m == c) = true → l.find? (fun x => x.m == c) = some x := by
  induction l with
  | nil => intro k x _ h; simp at h
  | cons z l ih =>
    intro k x h1 h2 h3
    cases k with
    | zero => simp at h2; subst h2; simp [List.find?, h3]
    | succ k =>
      have h0 := h1 0 z (by omega) rfl
      simp only [List.find?, h0]
      exact ih (k := k) (fun i y hi hy => h1 (i + 1) y (by omega) (by simpa using hy)) (by simpa using h2) h3
theorem fate_no {l : List Ft} {c : Int} (h : ∀ i y, i < l.length → l[i]? = some y → (y.m == c) = false) : l.find? (fun x => x.m == c) = none := by
  rw [List.find?_eq_none]
  intro x hx
  obtain ⟨i, hi, rfl⟩ := List.getElem_of_mem hx
  have := h i _ hi (List.getElem?_eq_getElem hi)
  simp at this ⊢; exact this
def IdxPost (l : List Ft) (c : Int) (w : World) (r : Ending) (w' : World) : Prop := ((∃ (k : Nat) (x : Ft), r = .returned (.int .i64 k) ∧ l[k]? = some x ∧ fateL l c = x) ∨ (r = .returned (.int .i64 (-1)) ∧ fateL l c = Ft.nil)) ∧ Keeps (fun _ => False) w w'
set_option maxRecDepth 100000 in set_option maxHeartbeats 1000000 in
theorem Send1_any (x : Ft) (af : Option Addr) (nf cf : Nat) (p : Nat) (cn : Int) (w : World) (hp : w.cell? ⟨p, 1, none⟩ = some (.int .i64 cn)) :
    Calls Tryd.prog 79 #[.agg #[.int .i64 x.m, .int .i64 x.k, .int .i64 x.dl, .int .i64 x.a, .slice af nf cf], .pointer (some ⟨p, 0, none⟩)] w fun e w' => e = .returned (.bool (x.m == cn)) ∧ Keeps (fun _ => False) w w' := by
  go_enter Tryd.func79, Tryd.ntmps79
  go_upto_region 1 with fail
  generalize hW : World.alloc w _ = W
  have BX : Hd (Blk W w.heap.size #[.int .i64 x.m, .int .i64 x.k, .int .i64 x.dl, .int .i64 x.a, .slice af nf cf] 33) := hid (by rw [← hW]; exact blk_new _ _ _)
  have KW : Hd (Keeps (fun _ => False) w W) := hid (by rw [← hW]; exact keeps_alloc _ _ _)
  clear hW
  have o0 : W.cell? ⟨w.heap.size, 0, none⟩ = some (.int .i64 x.m) := blk_cell BX.out 0
  have o1 : W.cell? ⟨p, 1, none⟩ = some (.int .i64 cn) := keep_cell KW.out (fun h => h) hp
  clear hp
  go_wp2
  go_ret
  exact ⟨rfl, KW.out⟩
set_option maxRecDepth 100000 in set_option maxHeartbeats 1000000 in
theorem IndexFunc_any (K : Nat → Prop) (v : Value) (l : List Ft) (p : Nat) (cn : Int) (w : World) (hl : Fts K w v l) (hp : w.cell? ⟨p, 1, none⟩ = some (.int .i64 cn)) (hm : l.length ≤ 1000000) :
    Calls Tryd.prog 78 #[v, .func (.func 79) #[] #[.pointer (some ⟨p, 0, none⟩)]] w fun e w' => IdxPost l cn w e w' := by
  obtain ⟨xs, hrow, hcells⟩ := hl
  have HCE := hid hcells
  obtain ⟨a, cap, rfl, hcap, hcm, hel⟩ := hrow.form
  have HEL := hid hel; have HP := hid hp
  unfold maxLen at hcm
  have hxl := hrow.1
  clear hcells hrow hel hp
  rw [List.length_map] at *
  generalize hll : l.length = m at *
  have HLL := hid hll; clear hll
  go_enter Tryd.func78, Tryd.ntmps78
  go_wp2_with fail
  go_loopw [8] (fun i wr => ∃ k : Nat, i = .int .i64 k ∧ k ≤ m ∧ Hd (∀ i y, i < k → l[i]? = some y → (y.m == cn) = false) ∧ Hd (Keeps (fun _ => False) w wr)) (fun i _ => m - (intOf i).toNat)
  case atStart => exact ⟨0, rfl, Nat.zero_le _, hid (fun i y hi => by omega), hid (Keeps.refl _ _)⟩
  case round =>
    obtain ⟨k, rfl, hk, HBE, HD⟩ := hrel
    by_cases hkm : k < m
    · obtain ⟨b, off, rfl, hb1, hb2, hcell⟩ := HEL.out (by omega)
      clear HEL
      obtain ⟨y, hy⟩ : ∃ y, l[k]? = some y := ⟨l[k]'(by rw [HLL.out]; exact hkm), List.getElem?_eq_getElem _⟩
      have hyf : (l.map Ft.fl)[k]? = some y.fl := by rw [List.getElem?_map, hy]; rfl
      obtain ⟨t0, t1, t2, t3, t4⟩ := HCE.out k y.fl hyf
      obtain ⟨af, cf, e4, _⟩ := t4.bytes
      have HXK := hid hy
      have key : ∀ j, j < 5 → wr.cell? ⟨b, off + (k * 5 + j), none⟩ = some (xs.getD (k * 5 + j) undef) := fun j hj => keep_cell HD.out (fun h => h) (hcell (k * 5 + j) (by omega))
      have f0 : wr.cell? ⟨b, off + k * 5, none⟩ = some (.int .i64 y.m) := (key 0 (by omega)).trans (congrArg some t0)
      have f1 : wr.cell? ⟨b, off + k * 5 + 1, none⟩ = some (.int .i64 y.k) := (key 1 (by omega)).trans (congrArg some t1)
      have f2 : wr.cell? ⟨b, off + k * 5 + 2, none⟩ = some (.int .i64 y.dl) := (key 2 (by omega)).trans (congrArg some t2)
      have f3 : wr.cell? ⟨b, off + k * 5 + 3, none⟩ = some (.int .i64 y.a) := (key 3 (by omega)).trans (congrArg some t3)
      have f4 : wr.cell? ⟨b, off + k * 5 + 4, none⟩ = some (.slice af y.fg.length cf) := (key 4 (by omega)).trans (congrArg some e4)
      have k1 : (k : Int) < m := by omega
      have k2 : (0 : Int) ≤ k := by omega
      clear t0 t1 t2 t3 t4 e4 hy hyf key hcell
      go_wp2_with fail
      refine (Send1_any y _ _ _ p cn _ (keep_cell HD.out (fun h => h) HP.out)).mono ?_
      rintro e w2 ⟨rfl, hk2⟩
      have K2 := hid (HD.out.trans hk2)
      clear hk2
      by_cases e1 : y.m = cn
      · have d1 : (y.m == cn) = true := by simp; exact e1
        have HR : Hd (IdxPost l cn w (.returned (.int .i64 k)) w2) := hid ⟨.inl ⟨k, y, rfl, HXK.out, by unfold fateL; rw [fate_at HBE.out HXK.out d1]; rfl⟩, K2.out⟩
        clear e1
        go_wp2
        go_ret
        exact HR.out
      · have d1 : (y.m == cn) = false := by simp; exact e1
        clear e1
        go_wp2
        go_roundw
        case rel =>
          refine ⟨k + 1, by go_num, by omega, hid (fun i y' hi hy' => ?_), K2⟩
          rcases Nat.lt_or_ge i k with h | h
          · exact HBE.out i y' h hy'
          · obtain rfl : i = k := by omega
            rw [HXK.out] at hy'; injection hy' with hy'; subst hy'
            exact d1
        case measure => simp [intOf]; omega
    · have hkm2 : k = m := by omega
      have HR : Hd (IdxPost l cn w (.returned (.int .i64 (-1))) wr) := hid ⟨.inr ⟨rfl, by unfold fateL; rw [fate_no (fun i y hi hy => HBE.out i y (by rw [HLL.out] at hi; omega) hy)]; rfl⟩, HD.out⟩
      have k0 : ¬ ((k : Int) < m) := by omega
      clear hkm hkm2
      go_wp2
      go_ret
      exact HR.out
end Go.Proofs.YtgfekgceeigdiaaDoor.Li
namespace Go.Proofs.YtgfekgceeigdiaaDoor.Li
open Go.RowKit
attribute [local go_sem ↓] Go.wp_at_zero Go.wp_at_succ
def dl0 (f : Ft) : Int := min (max f.dl 0) 1000
def delays (f : Ft) : List Int := if f.k = 1 then [] else if f.k = 2 then [dl0 f, 0] else [dl0 f]
def flight (f : Ft) (cn tick fr tt : Int) (data : List Nat) (d : Int) : Flt := ⟨tick + 1 + d, cn, fr, tt, spoilL data f⟩
def sentL (l : List Flt) (f : Ft) (cn tick fr tt : Int) (data : List Nat) (ds : List Int) : List Flt := ds.foldl (fun l d => putL l (flight f cn tick fr tt data d)) l
def sendR (R : Option Win) (l : List Flt) (cn : Int) (fts : List Ft) (tick fr tt : Int) (data : List Nat) : List Flt × Int × Bool :=
  match R with
  | none => (l, cn, false)
  | some x => if x.r < data.length then (l, cn, false) else (sentL l (fateL fts cn) cn tick fr tt data (delays (fateL fts cn)), cn + 1, true)
def sendL (l : List Flt) (cn : Int) (ws : List Win) (fts : List Ft) (tick fr tt : Int) (data : List Nat) : List Flt × Int × Bool := sendR (winW ws fr tt tick) l cn fts tick fr tt data
def SendPost (w : World) (R : List Flt × Int × Bool) (r : Ending) (w' : World) : Prop := ∃ a n c, r = .returned (.tuple #[.agg #[.slice a n c, .int .i64 R.2.1], .bool R.2.2]) ∧ n = R.1.length ∧ FlO w.heap.size w' (.slice a n c) R.1 ∧ Keeps (fun _ => False) w w'
theorem FlO.mono {B B' : Nat} {w : World} {v : Value} {l : List Flt} (h : FlO B w v l) (hB : B' ≤ B) : FlO B' w v l := by
  obtain ⟨xs, h1, h2, h3⟩ := h
  exact ⟨xs, h1, fun b hb => Nat.le_trans hB (h2 b hb), fun i x hi => (h3 i x hi).mono (fun b _ hb => ⟨Nat.le_trans hB hb.1, hb.2⟩)⟩
theorem fin5 {S : Nat → Prop} {w W : World} {b : Nat} {T : TypeId} {c0 c1 c2 c3 c4 : Value} (hk : Keeps S w W) (hb : S b) (hB : Blk W b #[c0, c1, c2, c3, c4] T) (u0 u1 u2 u3 u4 : Value) :
    Keeps S w (((((W.setCell ⟨b, 0, none⟩ u0).setCell ⟨b, 1, none⟩ u1).setCell ⟨b, 2, none⟩ u2).setCell ⟨b, 3, none⟩ u3).setCell ⟨b, 4, none⟩ u4) ∧ Blk (((((W.setCell ⟨b, 0, none⟩ u0).setCell ⟨b, 1, none⟩ u1).setCell ⟨b, 2, none⟩ u2).setCell ⟨b, 3, none⟩ u3).setCell ⟨b, 4, none⟩ u4) b #[u0, u1, u2, u3, u4] T :=
  ⟨((((hk.setCell (.inl hb) _).setCell (.inl hb) _).setCell (.inl hb) _).setCell (.inl hb) _).setCell (.inl hb) _, blk_set (blk_set (blk_set (blk_set (blk_set hB 0 u0) 1 u1) 2 u2) 3 u3) 4 u4⟩
/-- the fate that was chosen, in its block -/
def FtB (K : Nat → Prop) (w : World) (b : Nat) (f : Ft) : Prop := ∃ ag cg, Blk w b #[.int .i64 f.m, .int .i64 f.k, .int .i64 f.dl, .int .i64 f.a, .slice ag f.fg.length cg] 33 ∧ Sl K w (.slice ag f.fg.length cg) (u8s f.fg)
def DelR (w : World) (ds : List Int) (u : Value) (wx : World) : Prop := ∃ a c, u = .slice a ds.length c ∧ Hd (Own (fun b => w.heap.size ≤ b) wx 3 1 (.slice a ds.length c) ds.length (i64s ds)) ∧ Hd (Keeps (fun _ => False) w wx)
theorem delays_ok (f : Ft) : (delays f).length ≤ 2 ∧ ∀ d ∈ delays f, 0 ≤ d ∧ d ≤ 1000 := by
  unfold delays dl0
  split
  · simp
  · split
    · simp; omega
    · simp; omega
theorem sentL_succ {l : List Flt} {f : Ft} {cn tick fr tt : Int} {data : List Nat} {ds : List Int} {k : Nat} {d : Int} (h : ds[k]? = some d) :
    sentL l f cn tick fr tt data (ds.take (k + 1)) = putL (sentL l f cn tick fr tt data (ds.take k)) (flight f cn tick fr tt data d) := by
  unfold sentL
  rw [List.take_add_one, h, List.foldl_append]; rfl
theorem infoInt : (Tryd.prog.info? 3).map (fun i => (i.zero, i.size, i.bytes)) = some (some (.int .i64 0), 1, 8) := by kernel_rfl
theorem one_row (w : World) (x : Value) (t : TypeId) : Row (fun _ => True) (w.alloc (.cells #[x] t)) 1 (.slice (some ⟨w.heap.size, 0, none⟩) 1 1) 1 [x] :=
  Own.row (S := fun _ => True) ⟨World.ownsRow_lit (base := 0) (e := t) w #[x] 1 (Nat.zero_le _) (by decide) rfl, fun _ _ => trivial⟩
theorem delR_one (w : World) (d : Int) : DelR w [d] (.slice (some ⟨w.heap.size, 0, none⟩) 1 1) (w.alloc (.cells #[.int .i64 d] 3)) :=
  ⟨_, 1, rfl, hid ⟨World.ownsRow_lit w #[.int .i64 d] 1 (Nat.zero_le _) (by decide) rfl, fun k hk => by injection hk with hk; simp at hk; omega⟩, hid (keeps_alloc _ _ _)⟩
/-- the load of the flights ahead of the calls, by a name: it is carried out where it comes up -/
def ldK : Op := Op.load 46 (.tmp 73)
theorem ldK_eq : Op.load 46 (.tmp 73) = ldK := rfl
attribute [local go_sem] ldK
set_option maxRecDepth 100000 in set_option maxHeartbeats 1000000 in
theorem Send_any (vf vt vfs : Value) (l : List Flt) (ws : List Win) (fts : List Ft) (cn tick fr tt : Int) (ad : Option Addr) (cd : Nat) (data : List Nat) (w : World)
    (hl : Fls (fun b => b < w.heap.size) w vf l) (hws : Wins (fun b => b < w.heap.size) w vt ws) (hfs : Fts (fun b => b < w.heap.size) w vfs fts) (hd : Sl (fun b => b < w.heap.size) w (.slice ad data.length cd) (u8s data)) (hd8 : ∀ c ∈ data, c < 256)
    (hlen : l.length ≤ 900000) (hld : ∀ x ∈ l, x.d.length ≤ 1000000000) (hfl : fts.length ≤ 1000000) (hff : ∀ x ∈ fts, x.fg.length ≤ 1000000000) (hdl : data.length ≤ 1000000000)
    (h1 : -9223372036854775808 ≤ fr ∧ fr ≤ 9223372036854775807) (h2 : -9223372036854775808 ≤ tt ∧ tt ≤ 9223372036854775807) (h3 : 0 ≤ tick ∧ tick ≤ 1000000000000) (h4 : 0 ≤ cn ∧ cn ≤ 1000000000000) :
    Calls Tryd.prog 56 #[.agg #[vf, .int .i64 cn], vt, vfs, .int .i64 tick, .agg #[.int .i64 fr, .int .i64 tt, .slice ad data.length cd]] w fun e w' => SendPost w (sendL l cn ws fts tick fr tt data) e w' := by
  have HL := hid hl; have HWS := hid hws; have HFS := hid hfs; have HDT := hid hd; have HD8 := hid hd8; have HLD := hid hld; have HFF := hid hff
  obtain ⟨xs, hrow, -⟩ := hl
  obtain ⟨af, cf, rfl, -⟩ := hrow.form
  obtain ⟨xf, hrowf, hcf⟩ := hfs
  obtain ⟨afs, cfs, rfl, -, -, hels⟩ := hrowf.form
  rw [List.length_map] at *
  have HCF := hid hcf; have HELS := hid hels
  clear hcf hels hrowf
  obtain ⟨R, hR⟩ : ∃ R, winW ws fr tt tick = R := ⟨_, rfl⟩
  unfold sendL
  rw [hR]
  have HR := hid hR
  clear hR hrow hws hd hd8 hld hff
  generalize hdn : data.length = dn at *
  have HDN := hid hdn; clear hdn
  generalize hln : l.length = m at *
  have HLN := hid hln; clear hln
  go_enter Tryd.func56, Tryd.ntmps56
  go_upto_region 1 with fail
  generalize hW : World.alloc (World.alloc (World.alloc w _) _) _ = W
  have BP : Hd (Blk W w.heap.size #[.slice af m cf, .int .i64 cn] 48) := hid (by rw [← hW]; exact blk_alloc (blk_alloc (blk_new _ _ _) _) _)
  have BQ : Hd (Blk W (w.heap.size + 1) #[.int .i64 fr, .int .i64 tt, .slice ad dn cd] 82) := hid (by rw [← hW]; exact blk_alloc (blk_new' _ _ _ _ (by simp)) _)
  have BR : Hd (Blk W (w.heap.size + 1 + 1) #[.slice none 0 0, .int .i64 0] 48) := hid (by rw [← hW]; exact blk_new' _ _ _ _ (by simp))
  have KW : Hd (Keeps (fun _ => False) w W) := hid (by rw [← hW]; repeat (first | (with_reducible assumption) | (with_reducible exact Keeps.refl _ _) | (with_reducible apply Keeps.drewN) | (with_reducible apply Keeps.drew) | (with_reducible apply Keeps.alloc) | refine Keeps.setCell ?_ (by first | (simp; done) | (simp; omega)) _))
  have zW : w.heap.size + 1 + 1 < W.heap.size := blk_lt BR.out
  clear hW
  have o0 : W.cell? ⟨w.heap.size, 0, none⟩ = some (.slice af m cf) := blk_cell BP.out 0
  go_wp2_with fail
  refine (own_any _ l W ((HL.out.keep KW.out (fun _ _ _ h => h)).mono (fun b h1 _ => h1)) (by rw [HLN.out]; omega) (fun x hx => by have := HLD.out x hx; omega)).mono ?_
  rintro e w1 ⟨a1, c1, rfl, ho, hk⟩
  rw [HLN.out] at ho
  rw [HLN.out]
  have HO := hid ho; have K1 := hid hk
  have z1 := hk.size
  clear ho hk o0
  have BP1 := hid (blk_keep BP.out K1.out (fun h => h)); have BQ1 := hid (blk_keep BQ.out K1.out (fun h => h)); have BR1 := hid (blk_keep BR.out K1.out (fun h => h))
  have o0 : w1.cell? ⟨w.heap.size, 0, none⟩ = some (.slice af m cf) := blk_cell BP1.out 0
  have o1 : w1.frozen? ⟨w.heap.size, 0, none⟩ = false := blk_free BP1.out 0
  go_upto_region 2 with fail
  generalize hW2 : World.setCell w1 _ _ = W2
  have BP2 : Hd (Blk W2 w.heap.size #[.slice a1 m c1, .int .i64 cn] 48) := hid (by rw [← hW2]; exact blk_set BP1.out 0 _)
  have BQ2 : Hd (Blk W2 (w.heap.size + 1) #[.int .i64 fr, .int .i64 tt, .slice ad dn cd] 82) := hid (by rw [← hW2]; exact blk_other BQ1.out (by omega) _ _)
  have BR2 : Hd (Blk W2 (w.heap.size + 1 + 1) #[.slice none 0 0, .int .i64 0] 48) := hid (by rw [← hW2]; exact blk_other BR1.out (by omega) _ _)
  have K2 : Hd (Keeps (fun _ => False) w W2) := hid (by rw [← hW2]; exact (KW.out.trans K1.out).setCell (.inr (Nat.le_refl _)) _)
  have HO2 : Hd (FlO W.heap.size W2 (.slice a1 m c1) l) := hid (by
    have : Keeps (fun b => b = w.heap.size) w1 W2 := by rw [← hW2]; exact keeps_set _ _ _ _ rfl
    exact HO.out.keep this (fun b _ h1 h2 => by omega))
  have z2 : W.heap.size ≤ W2.heap.size := by have : Keeps (fun b => b = w.heap.size) w1 W2 := (by rw [← hW2]; exact keeps_set _ _ _ _ rfl); have := this.size; omega
  clear hW2 o0 o1 BP1 BQ1 BR1 BP BQ BR HO
  have q0 : W2.cell? ⟨w.heap.size + 1, 0, none⟩ = some (.int .i64 fr) := blk_cell BQ2.out 0
  have q1 : W2.cell? ⟨w.heap.size + 1, 1, none⟩ = some (.int .i64 tt) := blk_cell BQ2.out 1
  go_wp2_with fail
  refine (window_any _ ws fr tt tick W2 ((HWS.out.keep K2.out (fun _ _ _ h => h)).mono (fun b h1 _ => h1)) h1 h2).mono ?_
  rw [HR.out]
  rintro e w3 ⟨he, hk3⟩
  have K3 := hid hk3
  have z3 := hk3.size
  clear q0 q1 hk3
  have BP3 := hid (blk_keep BP2.out K3.out (fun h => h)); have BQ3 := hid (blk_keep BQ2.out K3.out (fun h => h)); have BR3 := hid (blk_keep BR2.out K3.out (fun h => h))
  have HO3 := hid (HO2.out.keep K3.out (fun _ _ _ h => h))
  have KA3 := hid (K2.out.trans K3.out)
  clear BP2 BQ2 BR2 HO2
  rcases R with _ | x
  · unfold NextPost at he
    subst he
    go_upto_region 3 with fail
    generalize hW4 : World.alloc w3 _ = W4
    have K4 : Hd (Keeps (fun _ => False) w3 W4) := hid (by rw [← hW4]; exact keeps_alloc _ _ _)
    skip
    clear hW4
    have BP4 := hid (blk_keep BP3.out K4.out (fun h => h)); have BQ4 := hid (blk_keep BQ3.out K4.out (fun h => h)); have BR4 := hid (blk_keep BR3.out K4.out (fun h => h))
    have KA4 := hid (KA3.out.trans K4.out)
    have HO4 := hid (HO3.out.keep K4.out (fun _ _ _ h => h))
    have z4 := K4.out.size
    clear BP3 BQ3 BR3 HO3 KA3
    obtain ⟨KF, F2⟩ := fin2 KA4.out (b := w.heap.size + 1 + 1) (by omega) BR4.out (.slice a1 m c1) (.int .i64 cn)
    have HOF : Hd (FlO w.heap.size ((W4.setCell ⟨w.heap.size + 1 + 1, 0, none⟩ (.slice a1 m c1)).setCell ⟨w.heap.size + 1 + 1, 1, none⟩ (.int .i64 cn)) (.slice a1 m c1) l) := hid (((HO4.out.keep (keeps_set (fun b => b = w.heap.size + 1 + 1) _ _ _ rfl) (fun b _ h1 h2 => by omega)).keep (keeps_set (fun b => b = w.heap.size + 1 + 1) _ _ _ rfl) (fun b _ h1 h2 => by omega)).mono (by omega))
    have r0 := blk_cell F2 0
    have r1 := blk_cell F2 1
    have HKF := hid KF
    have o0 : W4.cell? ⟨w.heap.size, 0, none⟩ = some (.slice a1 m c1) := blk_cell BP4.out 0
    have o1 : W4.cell? ⟨w.heap.size, 1, none⟩ = some (.int .i64 cn) := blk_cell BP4.out 1
    have o2 : W4.frozen? ⟨w.heap.size + 1 + 1, 0, none⟩ = false := blk_free BR4.out 0
    have o3 : W4.frozen? ⟨w.heap.size + 1 + 1, 1, none⟩ = false := blk_free BR4.out 1
    have o4 : W4.cell? ⟨w.heap.size + 1 + 1, 0, none⟩ = some (.slice none 0 0) := blk_cell BR4.out 0
    have o5 : W4.cell? ⟨w.heap.size + 1 + 1, 1, none⟩ = some (.int .i64 0) := blk_cell BR4.out 1
    clear KF F2
    go_wp2
    refine bodyPost_ret (v := .tuple #[.agg #[.slice a1 m c1, .int .i64 cn], .bool false]) (by simp [results, Tryd.results56, go_sem, r0, r1]) rfl ?_
    exact ⟨a1, m, c1, rfl, HLN.out.symm, HOF.out, HKF.out⟩
  · unfold NextPost at he
    subst he
    go_upto_region 3 with fail
    generalize hW4 : World.alloc w3 _ = W4
    have K4 : Hd (Keeps (fun _ => False) w3 W4) := hid (by rw [← hW4]; exact keeps_alloc _ _ _)
    have BW4 : Hd (Blk W4 w3.heap.size #[.int .i64 x.k, .int .i64 x.a, .int .i64 x.b, .int .i64 x.f, .int .i64 x.u, .int .i64 x.r] 146) := hid (by rw [← hW4]; exact blk_new _ _ _)
    clear hW4
    have BP4 := hid (blk_keep BP3.out K4.out (fun h => h)); have BQ4 := hid (blk_keep BQ3.out K4.out (fun h => h)); have BR4 := hid (blk_keep BR3.out K4.out (fun h => h))
    have KA4 := hid (KA3.out.trans K4.out)
    have HO4 := hid (HO3.out.keep K4.out (fun _ _ _ h => h))
    have z4 := K4.out.size
    clear BP3 BQ3 BR3 HO3 KA3
    have q2 : W4.cell? ⟨w.heap.size + 1, 2, none⟩ = some (.slice ad dn cd) := blk_cell BQ4.out 2
    have q5 : W4.cell? ⟨w3.heap.size, 5, none⟩ = some (.int .i64 x.r) := blk_cell BW4.out 5
    by_cases hxr : x.r < dn
    · have d1 : decide (x.r < (dn : Int)) = true := by simp; exact hxr
      have HSR : Hd (sendR (some x) l cn fts tick fr tt data = (l, cn, false)) := hid (by unfold sendR; simp only []; rw [if_pos (by rw [HDN.out]; exact hxr)])
      clear hxr
      obtain ⟨KF, F2⟩ := fin2 KA4.out (b := w.heap.size + 1 + 1) (by omega) BR4.out (.slice a1 m c1) (.int .i64 cn)
      have HOF : Hd (FlO w.heap.size ((W4.setCell ⟨w.heap.size + 1 + 1, 0, none⟩ (.slice a1 m c1)).setCell ⟨w.heap.size + 1 + 1, 1, none⟩ (.int .i64 cn)) (.slice a1 m c1) l) := hid (((HO4.out.keep (keeps_set (fun b => b = w.heap.size + 1 + 1) _ _ _ rfl) (fun b _ h1 h2 => by omega)).keep (keeps_set (fun b => b = w.heap.size + 1 + 1) _ _ _ rfl) (fun b _ h1 h2 => by omega)).mono (by omega))
      have r0 := blk_cell F2 0
      have r1 := blk_cell F2 1
      have HKF := hid KF
      have o0 : W4.cell? ⟨w.heap.size, 0, none⟩ = some (.slice a1 m c1) := blk_cell BP4.out 0
      have o1 : W4.cell? ⟨w.heap.size, 1, none⟩ = some (.int .i64 cn) := blk_cell BP4.out 1
      have o2 : W4.frozen? ⟨w.heap.size + 1 + 1, 0, none⟩ = false := blk_free BR4.out 0
      have o3 : W4.frozen? ⟨w.heap.size + 1 + 1, 1, none⟩ = false := blk_free BR4.out 1
      have o4 : W4.cell? ⟨w.heap.size + 1 + 1, 0, none⟩ = some (.slice none 0 0) := blk_cell BR4.out 0
      have o5 : W4.cell? ⟨w.heap.size + 1 + 1, 1, none⟩ = some (.int .i64 0) := blk_cell BR4.out 1
      clear KF F2
      go_wp2
      refine bodyPost_ret (v := .tuple #[.agg #[.slice a1 m c1, .int .i64 cn], .bool false]) (by simp [results, Tryd.results56, go_sem, r0, r1]) rfl ?_
      rw [HSR.out]
      exact ⟨a1, m, c1, rfl, HLN.out.symm, HOF.out, HKF.out⟩
    · have d1 : decide (x.r < (dn : Int)) = false := by simp; omega
      have HSR : Hd (sendR (some x) l cn fts tick fr tt data = (sentL l (fateL fts cn) cn tick fr tt data (delays (fateL fts cn)), cn + 1, true)) := hid (by unfold sendR; simp only []; rw [if_neg (by rw [HDN.out]; exact hxr)])
      clear hxr
      go_upto_region 6 with fail
      generalize hW5 : World.alloc W4 _ = W5
      have K5 : Hd (Keeps (fun _ => False) W4 W5) := hid (by rw [← hW5]; exact keeps_alloc _ _ _)
      have BF5 : Hd (Blk W5 W4.heap.size #[.int .i64 0, .int .i64 0, .int .i64 0, .int .i64 0, .slice none 0 0] 33) := hid (by rw [← hW5]; exact blk_new _ _ _)
      clear hW5 q2 q5 BW4 HR
      have BP5 := hid (blk_keep BP4.out K5.out (fun h => h)); have BQ5 := hid (blk_keep BQ4.out K5.out (fun h => h)); have BR5 := hid (blk_keep BR4.out K5.out (fun h => h))
      have KA5 := hid (KA4.out.trans K5.out)
      have z5 := K5.out.size
      clear BP4 BQ4 BR4 KA4 K1 K2 K3 K4
      go_wp2_with fail
      refine (IndexFunc_any _ _ fts w.heap.size cn W5 (HFS.out.keep KA5.out (fun _ _ _ h => h)) (blk_cell BP5.out 1) hfl).mono ?_
      rintro e w7 ⟨hi, hk7⟩
      obtain ⟨f, hf⟩ : ∃ f, fateL fts cn = f := ⟨_, rfl⟩
      rw [hf] at HSR hi
      obtain ⟨i, rfl, HI⟩ : ∃ i : Int, e = .returned (.int .i64 i) ∧ Hd ((∃ (k : Nat) (x : Ft), i = k ∧ fts[k]? = some x ∧ f = x) ∨ (i = -1 ∧ f = Ft.nil)) := by
        rcases hi with ⟨k, x, rfl, h1, h2⟩ | ⟨rfl, h1⟩
        · exact ⟨k, rfl, hid (.inl ⟨k, x, rfl, h1, h2⟩)⟩
        · exact ⟨-1, rfl, hid (.inr ⟨rfl, h1⟩)⟩
      have BP7 := hid (blk_keep BP5.out hk7 (fun h => h)); have BQ7 := hid (blk_keep BQ5.out hk7 (fun h => h)); have BR7 := hid (blk_keep BR5.out hk7 (fun h => h)); have BF7 := hid (blk_keep BF5.out hk7 (fun h => h))
      have KA7 := hid (KA5.out.trans hk7)
      have K47 := hid (K5.out.trans hk7)
      have z7 := hk7.size
      clear BP5 BQ5 BR5 BF5 KA5 hk7 hi hf K5
      go_upto_if 48 with fail
      go_cut [] from 49 to 52 (fun wx => Hd (FtB (fun b => b < w.heap.size) wx W4.heap.size f) ∧ Hd (Keeps (fun b => b = W4.heap.size) w7 wx))
      case first =>
        rcases HI.out with ⟨k, y, rfl, hk, rfl⟩ | ⟨rfl, rfl⟩
        · have hkm : k < fts.length := (List.getElem?_eq_some_iff.1 hk).1
          obtain ⟨b, off, rfl, hb1, hb2, hcell⟩ := HELS.out (by omega)
          have hyf : (fts.map Ft.fl)[k]? = some f.fl := by rw [List.getElem?_map, hk]; rfl
          have hcc := HCF.out k f.fl hyf
          obtain ⟨t0, t1, t2, t3, t4⟩ := hcc
          obtain ⟨ag, cg, e4, _⟩ := t4.bytes
          have t4' : Sl (fun b => b < w.heap.size) w (.slice ag f.fg.length cg) (u8s f.fg) := by
            have e4' : xf.getD (k * 5 + 4) undef = .slice ag f.fg.length cg := e4
            have := t4; simp only [e4'] at this; exact this
          have key : ∀ j, j < 5 → w7.cell? ⟨b, off + (k * 5 + j), none⟩ = some (xf.getD (k * 5 + j) undef) := fun j hj => keep_cell KA7.out (fun h => h) (hcell (k * 5 + j) (by omega))
          have f0 : w7.cell? ⟨b, off + k * 5, none⟩ = some (.int .i64 f.m) := (key 0 (by omega)).trans (congrArg some t0)
          have f1 : w7.cell? ⟨b, off + k * 5 + 1, none⟩ = some (.int .i64 f.k) := (key 1 (by omega)).trans (congrArg some t1)
          have f2 : w7.cell? ⟨b, off + k * 5 + 2, none⟩ = some (.int .i64 f.dl) := (key 2 (by omega)).trans (congrArg some t2)
          have f3 : w7.cell? ⟨b, off + k * 5 + 3, none⟩ = some (.int .i64 f.a) := (key 3 (by omega)).trans (congrArg some t3)
          have f4 : w7.cell? ⟨b, off + k * 5 + 4, none⟩ = some (.slice ag f.fg.length cg) := (key 4 (by omega)).trans (congrArg some e4)
          obtain ⟨KF, F2⟩ := fin5 (S := fun b => b = W4.heap.size) (Keeps.refl _ w7) rfl BF7.out (.int .i64 f.m) (.int .i64 f.k) (.int .i64 f.dl) (.int .i64 f.a) (.slice ag f.fg.length cg)
          have HKF := hid KF; have HF2 := hid F2
          have HT4 := hid ((t4'.keep KA7.out (fun _ _ _ h => h)).keep KF (fun b _ h1 h2 => by omega))
          have v0 := blk_cell BF7.out 0; have v1 := blk_cell BF7.out 1; have v2 := blk_cell BF7.out 2; have v3 := blk_cell BF7.out 3; have v4 := blk_cell BF7.out 4
          have y0 := blk_free BF7.out 0; have y1 := blk_free BF7.out 1; have y2 := blk_free BF7.out 2; have y3 := blk_free BF7.out 3; have y4 := blk_free BF7.out 4
          have d5 : (0 : Int) ≤ k := by omega
          have d6 : (k : Int) < fts.length := by omega
          clear t0 t1 t2 t3 t4 t4' e4 key hcell hyf KF F2 hk
          go_wp2_with fail
          go_meet
          exact ⟨hid ⟨ag, cg, HF2.out, HT4.out⟩, HKF⟩
        · go_wp2_with fail
          go_meet
          exact ⟨hid ⟨none, 0, BF7.out, Sl.nil _ _⟩, hid (Keeps.refl _ _)⟩
      case rest =>
        obtain ⟨HFB, KC⟩ := hcut
        have HFG : Hd (f.fg.length ≤ 1000000000) := hid (by
          rcases HI.out with ⟨k, y, _, hk, rfl⟩ | ⟨_, rfl⟩
          · exact HFF.out _ (List.mem_of_getElem? hk)
          · simp [Ft.nil])
        have KB : Hd (Keeps (fun b => b = W4.heap.size) W4 wc) := hid ((K47.out.mono (fun _ _ h => h.elim)).trans KC.out)
        have BP8 := hid (blk_keep BP7.out KC.out (by omega)); have BQ8 := hid (blk_keep BQ7.out KC.out (by omega)); have BR8 := hid (blk_keep BR7.out KC.out (by omega))
        have KA8 : Hd (Keeps (fun _ => False) w wc) := hid (KA7.out.trans' KC.out (fun i hi h => by omega))
        have HO8 := hid (HO4.out.keep KB.out (fun b h1 _ h2 => by omega))
        have z8 := KB.out.size
        clear BP7 BQ7 BR7 BF7 KA7 HO4 KC KB K47 HI HELS HCF HFS HFF
        obtain ⟨ag, cg, bf, sf⟩ := HFB.out
        have BF8 := hid bf; have SF8 := hid sf
        clear bf sf HFB
        have zf : W4.heap.size < wc.heap.size := blk_lt BF8.out
        generalize wc = w8 at *
        have o2 : w8.cell? ⟨W4.heap.size, 2, none⟩ = some (.int .i64 f.dl) := blk_cell BF8.out 2
        go_upto_region 9 with fail
        go_cut [16] from 53 to 57 (fun u wx => DelR w8 [dl0 f] u wx)
        case first =>
          obtain ⟨d, hd⟩ : ∃ d, dl0 f = d := ⟨_, rfl⟩
          have HD0 := hid hd
          rcases (show (f.dl < 0 ∧ d = 0) ∨ (0 ≤ f.dl ∧ f.dl ≤ 1000 ∧ d = f.dl) ∨ (1000 < f.dl ∧ d = 1000) by unfold dl0 at hd; omega) with ⟨g1, g2⟩ | ⟨g1, g2, g3⟩ | ⟨g1, g2⟩
          · have HG := hid g2
            clear hd g2
            go_wp2_with fail
            all_goals (first | (go_meet; rw [HD0.out, HG.out]; exact delR_one _ _) | (exfalso; omega))
          · have HG := hid g3
            clear hd g3
            go_wp2_with fail
            all_goals (first | (go_meet; rw [HD0.out, HG.out]; exact delR_one _ _) | (exfalso; omega))
          · have HG := hid g2
            clear hd g2
            go_wp2_with fail
            all_goals (first | (go_meet; rw [HD0.out, HG.out]; exact delR_one _ _) | (exfalso; omega))
        case rest =>
          obtain ⟨a9, c9, rfl, HDO, KD⟩ := hcut
          generalize wc = w9 at *
          have HD1 : Hd (Own (fun b => w8.heap.size ≤ b) w9 3 1 (.slice a9 1 c9) 1 [.int .i64 (dl0 f)]) := HDO
          have zd := KD.out.size
          clear o2
          have o1 : w9.cell? ⟨W4.heap.size, 1, none⟩ = some (.int .i64 f.k) := keep_cell KD.out (fun h => h) (blk_cell BF8.out 1)
          go_upto_block 0 with fail
          go_cut [16] from 58 to 66 (fun u wx => DelR w8 (delays f) u wx)
          case first =>
            by_cases k1 : f.k = 1
            · have t1 : (f.k == 1) = true := by simp; exact k1
              have HE : Hd (delays f = []) := hid (by unfold delays; rw [if_pos k1])
              clear k1
              go_wp2_with fail
              go_meet
              rw [HE.out]
              exact ⟨none, 0, rfl, hid (Own.nil _ _ _ _), KD⟩
            · have t1 : (f.k == 1) = false := by simp; exact k1
              by_cases k2 : f.k = 2
              · have t2 : (f.k == 2) = true := by simp; exact k2
                have HE : Hd (delays f = [dl0 f, 0]) := hid (by unfold delays; rw [if_neg k1, if_pos k2])
                clear k1 k2
                obtain ⟨i0, hi, hz0, hz1, hz2⟩ := info_parts infoInt
                go_wp2_with (at_builtin; refine wpList_append_row rfl (.tmp 64) (.tmp 65) 42 rfl 3 i0 (.int .i64 0) 1 8 Tryd.underlying42 hi hz0 hz1 hz2 rfl (by decide) _ (fun _ => True) (.slice a9 1 c9) _ 1 [.int .i64 (dl0 f)] rfl (HD1.out.alloc _) 1 [.int .i64 0] rfl (by exact one_row _ _ _) (by intro u hu; simp at hu; subst hu; rfl) (by decide) (by decide) ?_)
                intro a10 c10 w10 hown hk; try intro _
                have HOW := hid hown; have HKK := hid hk
                clear hown hk
                go_wp2_with fail
                go_meet
                rw [HE.out]
                exact ⟨a10, c10, rfl, hid (HOW.out.mono (fun b _ h => by rcases h with h | h <;> (try simp at h) <;> omega)), hid ((KD.out.alloc _).trans' HKK.out (fun i hi h => by omega))⟩
              · have t2 : (f.k == 2) = false := by simp; exact k2
                have HE : Hd (delays f = [dl0 f]) := hid (by unfold delays; rw [if_neg k1, if_neg k2])
                clear k1 k2
                go_wp2_with fail
                go_meet
                rw [HE.out]
                exact ⟨a9, c9, rfl, HDO, KD⟩
          case rest =>
            obtain ⟨a10, c10, rfl, HDS, KE⟩ := hcut
            clear HD1 HDO KD o1 zd
            generalize wc = w10 at *
            have ze := KE.out.size
            have BP10 := hid (blk_keep BP8.out KE.out (fun h => h)); have BQ10 := hid (blk_keep BQ8.out KE.out (fun h => h)); have BR10 := hid (blk_keep BR8.out KE.out (fun h => h)); have BF10 := hid (blk_keep BF8.out KE.out (fun h => h))
            have KA10 := hid (KA8.out.trans KE.out)
            have HO10 := hid (HO8.out.keep KE.out (fun _ _ _ h => h))
            have SF10 := hid (SF8.out.keep KE.out (fun _ _ _ h => h))
            have HDL := hid (delays_ok f)
            clear BP8 BQ8 BR8 BF8 KA8 HO8 SF8 KE
            generalize hds : delays f = ds at *
            generalize hnd : ds.length = nd at *
            have HND := hid hnd
            clear hds hnd
            have hnd2 : nd ≤ 2 := by have := HDL.out.1; omega
            go_wp2_with fail
            go_loopw [69] (fun i wr => ∃ (k : Nat) (a : Option Addr) (c : Nat) (l' : List Flt), i = .int .i64 k ∧ k ≤ nd ∧ Hd (l'.length = m + k) ∧ Hd (l' = sentL l f cn tick fr tt data (ds.take k)) ∧ Hd (Blk wr w.heap.size #[.slice a l'.length c, .int .i64 cn] 48) ∧ Hd (FlO W.heap.size wr (.slice a l'.length c) l') ∧ Hd (Keeps (fun b => b = w.heap.size) w10 wr)) (fun i _ => nd - (intOf i).toNat)
            case atStart => exact ⟨0, a1, c1, l, rfl, Nat.zero_le _, HLN, hid rfl, by rw [HLN.out]; exact BP10, by rw [HLN.out]; exact HO10, hid (Keeps.refl _ _)⟩
            case round =>
              obtain ⟨k, a, c, l', rfl, hk, HLL, HLE, BP, HO, KR⟩ := hrel
              clear BP10 HO10
              have zr := KR.out.size
              have BQ := hid (blk_keep BQ10.out KR.out (by omega)); have BR := hid (blk_keep BR10.out KR.out (by omega)); have BF := hid (blk_keep BF10.out KR.out (by omega))
              have KA : Hd (Keeps (fun _ => False) w wr) := hid (KA10.out.trans' KR.out (fun i hi h => by omega))
              have SF := hid (SF10.out.keep KR.out (fun b _ h1 h2 => by omega))
              by_cases hkm : k < nd
              · obtain ⟨d, hdk⟩ : ∃ d, ds[k]? = some d := ⟨ds[k]'(by rw [HND.out]; exact hkm), List.getElem?_eq_getElem _⟩
                have HDK := hid hdk
                obtain ⟨d0, d1⟩ := HDL.out.2 d (List.mem_of_getElem? hdk)
                have HDS1 := hid (HDS.out.keep KR.out (fun b _ h1 h2 => by omega))
                obtain ⟨ga, hga⟩ := row_none HDS1.out.row (by omega)
                subst hga
                obtain ⟨g, hg⟩ : ∃ g, ga = ⟨g, 0, none⟩ := by
                  rcases HDS1.out.1.2 with ⟨h, _⟩ | ⟨g, cap, cur, h, _⟩
                  · injection h with h; cases h
                  · injection h with h; injection h with h; exact ⟨g, h⟩
                subst hg
                have e0 : wr.cell? ⟨g, k, none⟩ = some (.int .i64 d) := by
                  rw [HDS1.out.1.cellAt k (by omega)]; simp [i64s, HDK.out]
                have e1 : wr.cell? ⟨w.heap.size, 0, none⟩ = some (.slice a l'.length c) := blk_cell BP.out 0
                have k1 : (k : Int) < nd := by omega
                have k2 : (0 : Int) ≤ k := by omega
                have u1 : IntKind.i64.wrap (tick + 1) = tick + 1 := IntWalk.i64_in _ (by omega)
                have u2 : IntKind.i64.wrap (tick + 1 + d) = tick + 1 + d := IntWalk.i64_in _ (by omega)
                have HSS : Hd (∀ w', w'.cell? ⟨w.heap.size, 1, none⟩ = some (.int .i64 cn) → Keeps (fun b => b = w.heap.size) wr w' → (w'.cell? ⟨w.heap.size, 1, none⟩ = some (.int .i64 cn) ∧ w'.cell? ⟨w.heap.size + 1, 0, none⟩ = some (.int .i64 fr) ∧ w'.cell? ⟨w.heap.size + 1, 1, none⟩ = some (.int .i64 tt) ∧ w'.cell? ⟨w.heap.size + 1, 2, none⟩ = some (.slice ad dn cd) ∧ w'.cell? ⟨W4.heap.size, 0, none⟩ = some (.int .i64 f.m) ∧ w'.cell? ⟨W4.heap.size, 1, none⟩ = some (.int .i64 f.k) ∧ w'.cell? ⟨W4.heap.size, 2, none⟩ = some (.int .i64 f.dl) ∧ w'.cell? ⟨W4.heap.size, 3, none⟩ = some (.int .i64 f.a) ∧ w'.cell? ⟨W4.heap.size, 4, none⟩ = some (.slice ag f.fg.length cg))) := hid (fun w' h0 hkk => by
                  have h1 := blk_keep BQ.out hkk (by omega)
                  have h2 := blk_keep BF.out hkk (by omega)
                  exact ⟨h0, blk_cell h1 0, blk_cell h1 1, blk_cell h1 2, blk_cell h2 0, blk_cell h2 1, blk_cell h2 2, blk_cell h2 3, blk_cell h2 4⟩)
                have L5 : Hd (Keeps (fun _ => False) wr wr) := hid (Keeps.refl _ _)
                clear hdk HDS1
                go_upto_region 18 with fail
                rw [ldK_eq]
                go_region_held (fun w' => (w'.cell? ⟨w.heap.size, 1, none⟩ = some (.int .i64 cn) ∧ w'.cell? ⟨w.heap.size + 1, 0, none⟩ = some (.int .i64 fr) ∧ w'.cell? ⟨w.heap.size + 1, 1, none⟩ = some (.int .i64 tt) ∧ w'.cell? ⟨w.heap.size + 1, 2, none⟩ = some (.slice ad dn cd) ∧ w'.cell? ⟨W4.heap.size, 0, none⟩ = some (.int .i64 f.m) ∧ w'.cell? ⟨W4.heap.size, 1, none⟩ = some (.int .i64 f.k) ∧ w'.cell? ⟨W4.heap.size, 2, none⟩ = some (.int .i64 f.dl) ∧ w'.cell? ⟨W4.heap.size, 3, none⟩ = some (.int .i64 f.a) ∧ w'.cell? ⟨W4.heap.size, 4, none⟩ = some (.slice ag f.fg.length cg))) (exact HSS.out _ (by first | exact blk_cell BP.out 1 | exact blk_cell BP6.out 1 | exact blk_cell BP7.out 1 | exact blk_cell (blk_set BP7.out 0 _) 1) (by first | exact (Keeps.refl _ wr).drew | exact K6.out | exact K7.out | exact K7.out.setCell (.inl rfl) _))
                  (first
                  | (go_at_call 81; refine (Spoil_any (fun _ => True) _ data _ f _ ((HDT.out.keep (KA.out.trans (S := fun _ => False) (by repeat (first | (with_reducible exact L5.out) | (with_reducible exact Keeps.refl _ _) | (with_reducible apply Keeps.drewN) | (with_reducible apply Keeps.drew) | (with_reducible apply Keeps.alloc)))) (fun _ _ _ h => h)).mono (fun b h1 _ => h1)) ⟨ag, cg, rfl, (SF.out.keep (S := fun _ => False) (by repeat (first | (with_reducible exact L5.out) | (with_reducible exact Keeps.refl _ _) | (with_reducible apply Keeps.drewN) | (with_reducible apply Keeps.drew) | (with_reducible apply Keeps.alloc))) (fun _ _ _ h => h)).mono (fun b h1 _ => h1)⟩ HD8.out (by rw [HDN.out]; exact hdl) HFG.out).mono ?_; rintro e w6 ⟨a6, c6, rfl, hs6, hk6⟩; have KF6 : Hd (Keeps (fun _ => False) wr w6) := hid (Keeps.trans (S := fun _ => False) (by repeat (first | (with_reducible exact L5.out) | (with_reducible exact Keeps.refl _ _) | (with_reducible apply Keeps.drewN) | (with_reducible apply Keeps.drew) | (with_reducible apply Keeps.alloc))) hk6); have K6 : Hd (Keeps (fun b => b = w.heap.size) wr w6) := hid (KF6.out.mono (fun _ _ h => h.elim)); have BP6 := hid (blk_keep BP.out KF6.out (fun h => h)); have e6 : w6.cell? ⟨w.heap.size, 0, none⟩ = some (.slice a l'.length c) := blk_cell BP6.out 0; have HS6 := hid hs6; clear hs6 hk6)
                  | (go_at_call 80; refine (put_fl (fun b => W.heap.size ≤ b) _ l' (flight f cn tick fr tt data d) a6 c6 _ (HO.out.keep KF6.out (fun _ _ _ h => h)).fls (HS6.out.mono (fun b _ h => by have h' : wr.heap.size ≤ b := h; omega)) (by have := HLL.out; omega)).mono ?_; rintro e w7 hp7; obtain ⟨a7, c7, rfl, ho7, hk7⟩ := hp7.flo (by have := KF6.out.size; omega); have KF7 : Hd (Keeps (fun _ => False) wr w7) := hid (KF6.out.trans hk7); have K7 : Hd (Keeps (fun b => b = w.heap.size) wr w7) := hid (KF7.out.mono (fun _ _ h => h.elim)); have BP7 := hid (blk_keep BP.out KF7.out (fun h => h)); have y7 : w7.frozen? ⟨w.heap.size, 0, none⟩ = false := blk_free BP7.out 0; have x7 : w7.cell? ⟨w.heap.size, 0, none⟩ = some (.slice a l'.length c) := blk_cell BP7.out 0; have HO7 := hid ho7; clear hp7 ho7 hk7))
                all_goals
                  have HNX : Hd ((putL l' (flight f cn tick fr tt data d)).length = l'.length + 1) := hid (putL_length _ _)
                  have HBP : Hd (Blk (w7.setCell ⟨w.heap.size, 0, none⟩ (.slice a7 (l'.length + 1) c7)) w.heap.size #[.slice a7 (l'.length + 1) c7, .int .i64 cn] 48) := hid (blk_set BP7.out 0 _)
                  have HOX : Hd (FlO W.heap.size (w7.setCell ⟨w.heap.size, 0, none⟩ (.slice a7 (l'.length + 1) c7)) (.slice a7 (l'.length + 1) c7) (putL l' (flight f cn tick fr tt data d))) := hid (HO7.out.keep (keeps_set (fun b => b = w.heap.size) _ _ _ rfl) (fun b _ h1 h2 => by omega))
                  have KX : Hd (Keeps (fun b => b = w.heap.size) w10 (w7.setCell ⟨w.heap.size, 0, none⟩ (.slice a7 (l'.length + 1) c7))) := hid (KR.out.trans (K7.out.setCell (.inl rfl) _))
                  clear HO7 BP7 x7 y7 e0 e1
                  go_wp2
                  go_roundw
                  case rel => exact ⟨k + 1, a7, c7, putL l' (flight f cn tick fr tt data d), by go_num, by omega, hid (by rw [HNX.out, HLL.out]; omega), hid (by rw [sentL_succ HDK.out, ← HLE.out]), by rw [HNX.out]; exact HBP, by rw [HNX.out]; exact HOX, KX⟩
                  case measure => simp [intOf]; omega
              · have hkn : k = nd := by omega
                have HLF : Hd (l' = sentL l f cn tick fr tt data ds) := hid (by rw [HLE.out, List.take_of_length_le (by rw [HND.out]; omega)])
                have k0 : ¬ ((k : Int) < nd) := by omega
                have u3 : IntKind.i64.wrap (cn + 1) = cn + 1 := IntWalk.i64_in _ (by omega)
                have e1 : wr.cell? ⟨w.heap.size, 1, none⟩ = some (.int .i64 cn) := blk_cell BP.out 1
                have e2 : wr.frozen? ⟨w.heap.size, 1, none⟩ = false := blk_free BP.out 1
                clear hkm hkn
                go_upto_region 21 with fail
                generalize hW9 : World.setCell wr _ _ = W9
                have BP9 : Hd (Blk W9 w.heap.size #[.slice a l'.length c, .int .i64 (cn + 1)] 48) := hid (by rw [← hW9]; exact blk_set BP.out 1 _)
                have BR9 : Hd (Blk W9 (w.heap.size + 1 + 1) #[.slice none 0 0, .int .i64 0] 48) := hid (by rw [← hW9]; exact blk_other BR.out (by omega) _ _)
                have KA9 : Hd (Keeps (fun _ => False) w W9) := hid (by rw [← hW9]; exact KA.out.setCell (.inr (Nat.le_refl _)) _)
                have HO9 : Hd (FlO W.heap.size W9 (.slice a l'.length c) l') := hid (by rw [← hW9]; exact HO.out.keep (keeps_set (fun b => b = w.heap.size) _ _ _ rfl) (fun b _ h1 h2 => by omega))
                clear hW9 e1 e2
                obtain ⟨KF, F2⟩ := fin2 KA9.out (b := w.heap.size + 1 + 1) (by omega) BR9.out (.slice a l'.length c) (.int .i64 (cn + 1))
                have HOF : Hd (FlO w.heap.size ((W9.setCell ⟨w.heap.size + 1 + 1, 0, none⟩ (.slice a l'.length c)).setCell ⟨w.heap.size + 1 + 1, 1, none⟩ (.int .i64 (cn + 1))) (.slice a l'.length c) l') := hid (((HO9.out.keep (keeps_set (fun b => b = w.heap.size + 1 + 1) _ _ _ rfl) (fun b _ h1 h2 => by omega)).keep (keeps_set (fun b => b = w.heap.size + 1 + 1) _ _ _ rfl) (fun b _ h1 h2 => by omega)).mono (by omega))
                have r0 := blk_cell F2 0
                have r1 := blk_cell F2 1
                have HKF := hid KF
                have o0 : W9.cell? ⟨w.heap.size, 0, none⟩ = some (.slice a l'.length c) := blk_cell BP9.out 0
                have o1 : W9.cell? ⟨w.heap.size, 1, none⟩ = some (.int .i64 (cn + 1)) := blk_cell BP9.out 1
                have o2 : W9.frozen? ⟨w.heap.size + 1 + 1, 0, none⟩ = false := blk_free BR9.out 0
                have o3 : W9.frozen? ⟨w.heap.size + 1 + 1, 1, none⟩ = false := blk_free BR9.out 1
                have o4 : W9.cell? ⟨w.heap.size + 1 + 1, 0, none⟩ = some (.slice none 0 0) := blk_cell BR9.out 0
                have o5 : W9.cell? ⟨w.heap.size + 1 + 1, 1, none⟩ = some (.int .i64 0) := blk_cell BR9.out 1
                clear KF F2
                go_wp2
                refine bodyPost_ret (v := .tuple #[.agg #[.slice a l'.length c, .int .i64 (cn + 1)], .bool true]) (by simp [results, Tryd.results56, go_sem, r0, r1]) rfl ?_
                rw [HSR.out, ← HLF.out]
                exact ⟨a, l'.length, c, rfl, rfl, HOF.out, HKF.out⟩
end Go.Proofs.YtgfekgceeigdiaaDoor.Li
namespace Go.Proofs.YtgfekgceeigdiaaDoor.Li
open Go.RowKit
attribute [local go_sem ↓] Go.wp_at_zero Go.wp_at_succ
theorem infoAr : (Tryd.prog.info? 82).map (fun i => (i.size, i.bytes)) = some (3, 40) := by kernel_rfl
theorem infoArz : ((Tryd.prog.info? 82).bind (·.zero)).map (fun z => z.cells) = some #[.int .i64 0, .int .i64 0, .slice none 0 0] := by kernel_rfl
theorem ar_parts : ∃ i z, Tryd.prog.info? 82 = some i ∧ i.zero = some z ∧ i.size = 3 ∧ i.bytes = 40 ∧ z.cells.size = 3 := by
  obtain ⟨i, hi, h1⟩ := Option.map_eq_some_iff.1 infoAr
  have h2 := infoArz
  rw [hi] at h2
  obtain ⟨z, hz, h3⟩ := Option.map_eq_some_iff.1 h2
  simp only [Prod.mk.injEq] at h1
  exact ⟨i, z, hi, hz, h1.1, h1.2, by rw [h3]; rfl⟩
/-- a list of arrivals: of each flight its from, to, data -/
def ArCells (K : Nat → Prop) (w : World) (c : Nat → Value) (x : Flt) : Prop := c 0 = .int .i64 x.f ∧ c 1 = .int .i64 x.g ∧ Sl K w (c 2) (u8s x.d)
def Ars (K : Nat → Prop) (w : World) (v : Value) (l : List Flt) : Prop := ∃ xs, Row K w 3 v l.length xs ∧ ∀ i x, l[i]? = some x → ArCells K w (fun j => xs.getD (i * 3 + j) undef) x
theorem ArCells.keep {K S : Nat → Prop} {w w' : World} {c : Nat → Value} {x : Flt} (h : ArCells K w c x) (hk : Keeps S w w') (hd : ∀ b, b < w.heap.size → K b → ¬ S b) : ArCells K w' c x := ⟨h.1, h.2.1, h.2.2.keep hk hd⟩
theorem ArCells.mono {K K' : Nat → Prop} {w : World} {c : Nat → Value} {x : Flt} (h : ArCells K w c x) (hd : ∀ b, b < w.heap.size → K b → K' b) : ArCells K' w c x := ⟨h.1, h.2.1, h.2.2.mono hd⟩
theorem ArCells.congr {K : Nat → Prop} {w : World} {c c' : Nat → Value} {x : Flt} (h : ArCells K w c x) (e : ∀ j, j < 3 → c' j = c j) : ArCells K w c' x := by
  obtain ⟨h0, h1, h2⟩ := h
  refine ⟨(e 0 (by omega)).trans h0, (e 1 (by omega)).trans h1, ?_⟩
  rw [e 2 (by omega)]; exact h2
theorem Ars.keep {K S : Nat → Prop} {w w' : World} {v : Value} {l : List Flt} (h : Ars K w v l) (hk : Keeps S w w') (hd : ∀ b, b < w.heap.size → K b → ¬ S b) : Ars K w' v l := by
  obtain ⟨xs, h1, h2⟩ := h
  exact ⟨xs, h1.keep hk hd, fun i x hi => (h2 i x hi).keep hk hd⟩
theorem Ars.mono {K K' : Nat → Prop} {w : World} {v : Value} {l : List Flt} (h : Ars K w v l) (hd : ∀ b, b < w.heap.size → K b → K' b) : Ars K' w v l := by
  obtain ⟨xs, h1, h2⟩ := h
  exact ⟨xs, h1.mono hd, fun i x hi => (h2 i x hi).mono hd⟩
def stepK (l : List Flt) (tick : Int) : Nat := (l.takeWhile (fun x => decide (x.t ≤ tick))).length
theorem stepK_at {tick : Int} : ∀ {l : List Flt} {k : Nat}, k ≤ l.length → (∀ i y, i < k → l[i]? = some y → decide (y.t ≤ tick) = true) → (∀ y, l[k]? = some y → decide (y.t ≤ tick) = false) → stepK l tick = k := by
  intro l
  induction l with
  | nil => intro k hk _ _; simp at hk; subst hk; rfl
  | cons z l ih =>
    intro k hk h1 h2
    unfold stepK at *
    cases k with
    | zero => have := h2 z rfl; simp [List.takeWhile, this]
    | succ k =>
      have h0 := h1 0 z (by omega) rfl
      have := ih (k := k) (by simpa using hk) (fun i y hi hy => h1 (i + 1) y (by omega) (by simpa using hy)) (fun y hy => h2 y (by simpa using hy))
      simp only [List.takeWhile, h0, List.length_cons, this]
def StepPost (w : World) (l : List Flt) (cn tick : Int) (r : Ending) (w' : World) : Prop := ∃ a n c ao no co, r = .returned (.tuple #[.agg #[.slice a n c, .int .i64 cn], .slice ao no co]) ∧ n = (l.drop (stepK l tick)).length ∧ no = (l.take (stepK l tick)).length ∧
  Fls (fun b => w.heap.size ≤ b) w' (.slice a n c) (l.drop (stepK l tick)) ∧ Ars (fun b => w.heap.size ≤ b) w' (.slice ao no co) (l.take (stepK l tick)) ∧ Keeps (fun _ => False) w w'
theorem fls_drop {K : Nat → Prop} {w : World} {xs : List Value} {l : List Flt} {k : Nat} (h : ∀ i x, l[i]? = some x → FlCells K w (fun j => xs.getD (i * 5 + j) undef) x) : ∀ i x, (l.drop k)[i]? = some x → FlCells K w (fun j => (xs.drop (k * 5)).getD (i * 5 + j) undef) x := by
  intro i x hx
  rw [List.getElem?_drop] at hx
  refine (h _ _ hx).congr (fun j hj => ?_)
  unfold List.getD
  rw [List.getElem?_drop]
  congr 2; omega
theorem getD_app3 {xs ns : List Value} {n i j : Nat} (hx : xs.length = n * 3) (hj : j < 3) (hi : i ≤ n) : (xs ++ ns).getD (i * 3 + j) undef = if i < n then xs.getD (i * 3 + j) undef else ns.getD j undef := by
  unfold List.getD
  split
  · rw [List.getElem?_append_left (by omega)]
  · rename_i h
    rw [List.getElem?_append_right (by omega)]
    congr 2; omega
theorem lit_row (w : World) (cs : Array Value) (t : TypeId) (n size : Nat) (h : cs.size = n * size) (hm : n ≤ maxLen) : Row (fun _ => True) (w.alloc (.cells cs t)) size (.slice (some ⟨w.heap.size, 0, none⟩) n n) n cs.toList :=
  Own.row (S := fun _ => True) ⟨World.ownsRow_lit (base := 0) (e := t) w cs n (Nat.zero_le _) hm h, fun _ _ => trivial⟩
set_option maxRecDepth 100000 in set_option maxHeartbeats 1000000 in
theorem Step_any (vf : Value) (l : List Flt) (cn tick : Int) (w : World) (hl : Fls (fun b => b < w.heap.size) w vf l) (hlen : l.length ≤ 1000000) (hld : ∀ x ∈ l, x.d.length ≤ 140737488351232) :
    Calls Tryd.prog 29 #[.agg #[vf, .int .i64 cn], .int .i64 tick] w fun e w' => StepPost w l cn tick e w' := by
  have HL := hid hl; have HLD := hid hld
  obtain ⟨i0, z, hi, hz0, hz1, hz2, hz3⟩ := ar_parts
  obtain ⟨i5, z5, hi5, hy0, hy1, hy2, hy3⟩ := fl_parts
  obtain ⟨xs0, hrow, -⟩ := hl
  obtain ⟨af, cf, rfl, -⟩ := hrow.form
  clear hrow hld
  generalize hln : l.length = m at *
  have HLN := hid hln; clear hln
  go_enter Tryd.func29, Tryd.ntmps29
  go_upto_region 1 with fail
  generalize hW : World.alloc (World.alloc w _) _ = W
  have BP : Hd (Blk W w.heap.size #[.slice af m cf, .int .i64 cn] 48) := hid (by rw [← hW]; exact blk_alloc (blk_new _ _ _) _)
  have BR : Hd (Blk W (w.heap.size + 1) #[.slice none 0 0, .int .i64 0] 48) := hid (by rw [← hW]; exact blk_new' _ _ _ _ (by simp))
  have KW : Hd (Keeps (fun _ => False) w W) := hid (by rw [← hW]; repeat (first | (with_reducible assumption) | (with_reducible exact Keeps.refl _ _) | (with_reducible apply Keeps.drewN) | (with_reducible apply Keeps.drew) | (with_reducible apply Keeps.alloc) | refine Keeps.setCell ?_ (by first | (simp; done) | (simp; omega)) _))
  have zW : w.heap.size + 1 < W.heap.size := blk_lt BR.out
  clear hW
  have o0 : W.cell? ⟨w.heap.size, 0, none⟩ = some (.slice af m cf) := blk_cell BP.out 0
  go_wp2_with fail
  refine (own_any _ l W ((HL.out.keep KW.out (fun _ _ _ h => h)).mono (fun b h1 _ => h1)) (by rw [HLN.out]; omega) HLD.out).mono ?_
  rintro e w1 ⟨a1, c1, rfl, ho, hk⟩
  rw [HLN.out] at ho
  rw [HLN.out]
  obtain ⟨xs, hown, hge, hcl⟩ := ho
  rw [HLN.out] at hown
  have HO := hid hown; have HGE := hid hge; have HCL := hid hcl; have K1 := hid hk
  have z1 := hk.size
  clear hown hge hcl hk o0
  have BP1 := hid (blk_keep BP.out K1.out (fun h => h)); have BR1 := hid (blk_keep BR.out K1.out (fun h => h))
  have KA1 := hid (KW.out.trans K1.out)
  clear BP BR
  have hxl : Hd (xs.length = m * 5) := hid HO.out.1.1
  go_wp2_with fail
  go_loopw [7, 8] (fun i o wr => ∃ (k : Nat) (a : Option Addr) (c : Nat) (ys : List Value), i = .int .i64 k ∧ o = .slice a k c ∧ k ≤ m ∧ Hd (∀ i y, i < k → l[i]? = some y → decide (y.t ≤ tick) = true) ∧ Hd (Own (fun b => w1.heap.size ≤ b) wr 82 3 (.slice a k c) k ys) ∧
    Hd (∀ i y, i < k → l[i]? = some y → ArCells (fun b => W.heap.size ≤ b ∧ b < w1.heap.size) wr (fun j => ys.getD (i * 3 + j) undef) y) ∧ Hd (Keeps (fun _ => False) w1 wr)) (fun i _ _ => m - (intOf i).toNat)
  case atStart => exact ⟨0, none, 0, [], rfl, rfl, Nat.zero_le _, hid (fun i y hi => by omega), hid (Own.nil _ _ _ _), hid (fun i y hi => by omega), hid (Keeps.refl _ _)⟩
  case round =>
    obtain ⟨k, a, c, ys, rfl, rfl, hk, HBE, HY, HYC, KR⟩ := hrel
    have zr := KR.out.size
    have HOR := hid (HO.out.keep KR.out (fun _ _ _ h => h))
    by_cases hkm : k < m
    · obtain ⟨y, hy⟩ : ∃ y, l[k]? = some y := ⟨l[k]'(by rw [HLN.out]; exact hkm), List.getElem?_eq_getElem _⟩
      obtain ⟨ga, hga⟩ := row_none HOR.out.row (by omega)
      subst hga
      obtain ⟨g, hg⟩ : ∃ g, ga = ⟨g, 0, none⟩ := by
        rcases HOR.out.1.2 with ⟨h, _⟩ | ⟨g, cap, cur, h, _⟩
        · injection h with h; cases h
        · injection h with h; injection h with h; exact ⟨g, h⟩
      subst hg
      obtain ⟨t0, t1, t2, t3, t4⟩ := HCL.out k y hy
      obtain ⟨ab, cb, e4, _⟩ := t4.bytes
      have t4' : Sl (fun b => W.heap.size ≤ b ∧ b < w1.heap.size) w1 (.slice ab y.d.length cb) (u8s y.d) := by
        have e4' : xs.getD (k * 5 + 4) undef = .slice ab y.d.length cb := e4
        have := t4; simp only [e4'] at this
        exact this.mono (fun b h1 h2 => ⟨h2.1, h1⟩)
      have HT4 := hid (t4'.keep KR.out (fun _ _ _ h => h))
      have HXK := hid hy
      have key : ∀ j, j < 5 → wr.cell? ⟨g, k * 5 + j, none⟩ = some (xs.getD (k * 5 + j) undef) := fun j hj => by
        rw [HOR.out.1.cellAt (k * 5 + j) (by omega), List.getD, List.getElem?_eq_getElem (by rw [hxl.out]; omega)]; rfl
      have f0 : wr.cell? ⟨g, k * 5, none⟩ = some (.int .i64 y.t) := (key 0 (by omega)).trans (congrArg some t0)
      have f2 : wr.cell? ⟨g, k * 5 + 2, none⟩ = some (.int .i64 y.f) := (key 2 (by omega)).trans (congrArg some t2)
      have f3 : wr.cell? ⟨g, k * 5 + 3, none⟩ = some (.int .i64 y.g) := (key 3 (by omega)).trans (congrArg some t3)
      have f4 : wr.cell? ⟨g, k * 5 + 4, none⟩ = some (.slice ab y.d.length cb) := (key 4 (by omega)).trans (congrArg some e4)
      have k1 : (k : Int) < m := by omega
      have k2 : (0 : Int) ≤ k := by omega
      clear t0 t1 t2 t3 t4 t4' e4 hy key
      by_cases hyt : y.t ≤ tick
      · have d1 : decide (y.t ≤ tick) = true := by simp; exact hyt
        clear hyt
        go_wp2_with (at_builtin; refine wpList_append_row rfl (.tmp 25) (.tmp 31) 78 rfl 82 i0 z 3 40 Tryd.underlying78 hi hz0 hz1 hz2 hz3 (by decide) _ (fun _ => True) (.slice a k c) _ k ys rfl (HY.out.alloc _) 1 [.int .i64 y.f, .int .i64 y.g, .slice ab y.d.length cb] rfl (by exact lit_row _ _ _ 1 3 rfl (by decide)) (by intro u hu; simp at hu; rcases hu with rfl | rfl | rfl <;> rfl) (by simp [maxLen]; omega) (by omega) ?_)
        intro a2 c2 w2 hown hk2; try intro _
        have HY2 := hid (hown.mono (K' := fun b => w1.heap.size ≤ b) (fun b _ h => by rcases h with h | h <;> (try simp at h) <;> omega))
        have K2 : Hd (Keeps (fun b => w1.heap.size ≤ b) wr w2) := hid ((keeps_alloc _ wr _).trans hk2)
        have KR2 : Hd (Keeps (fun _ => False) w1 w2) := hid (KR.out.trans' K2.out (fun i hi h => by omega))
        have hyl : ys.length = k * 3 := HY.out.1.1
        have HYC2 : Hd (∀ i y', i < k + 1 → l[i]? = some y' → ArCells (fun b => W.heap.size ≤ b ∧ b < w1.heap.size) w2 (fun j => (ys ++ [Value.int .i64 y.f, .int .i64 y.g, .slice ab y.d.length cb]).getD (i * 3 + j) undef) y') := hid (fun i y' hi hy' => by
          have hg : ∀ j, j < 3 → _ := fun j hj => getD_app3 (xs := ys) (ns := [Value.int .i64 y.f, .int .i64 y.g, .slice ab y.d.length cb]) (n := k) (i := i) (j := j) hyl hj (by omega)
          rcases Nat.lt_or_ge i k with h | h
          · exact ((HYC.out i y' h hy').keep K2.out (fun b _ h1 h2 => by omega)).congr (fun j hj => by rw [hg j hj, if_pos h])
          · obtain rfl : i = k := by omega
            rw [HXK.out] at hy'; injection hy' with hy'; subst hy'
            exact (show ArCells _ w2 (fun j => [Value.int .i64 y.f, .int .i64 y.g, .slice ab y.d.length cb].getD j undef) y from ⟨rfl, rfl, HT4.out.keep K2.out (fun b _ h1 h2 => by omega)⟩).congr (fun j hj => by rw [hg j hj, if_neg (by omega)]))
        have HBE2 : Hd (∀ i y', i < k + 1 → l[i]? = some y' → decide (y'.t ≤ tick) = true) := hid (fun i y' hi hy' => by
          rcases Nat.lt_or_ge i k with h | h
          · exact HBE.out i y' h hy'
          · obtain rfl : i = k := by omega
            rw [HXK.out] at hy'; injection hy' with hy'; subst hy'
            exact d1)
        clear hown hk2 HBE HYC HY
        go_wp2
        go_roundw
        case rel => exact ⟨k + 1, a2, c2, _, by go_num, rfl, by omega, HBE2, HY2, HYC2, KR2⟩
        case measure => simp [intOf]; omega
      · have d1 : decide (y.t ≤ tick) = false := by simp; omega
        have HPK : Hd (stepK l tick = k) := hid (stepK_at (by rw [HLN.out]; omega) HBE.out (fun y' hy' => by rw [HXK.out] at hy'; injection hy' with hy'; subst hy'; exact d1))
        clear hyt HBE
        obtain ⟨a2, c2, hcut, hr2⟩ := run_cut_from (P := Tryd.prog) (t := 46) Tryd.underlying46 hi5 hy1 HOR.out.row (lo := (k : Int)) k rfl hk
        have HR2 := hid hr2
        have BPR := hid (blk_keep BP1.out KR.out (fun h => h)); have BRR := hid (blk_keep BR1.out KR.out (fun h => h))
        have KAR := hid (KA1.out.trans KR.out)
        have p0 : wr.cell? ⟨w.heap.size, 0, none⟩ = some (.slice af m cf) := blk_cell BPR.out 0
        have p1 : wr.frozen? ⟨w.heap.size, 0, none⟩ = false := blk_free BPR.out 0
        clear hr2
        go_upto_region 8 with fail
        generalize hW9 : World.setCell wr _ _ = W9
        have BP9 : Hd (Blk W9 w.heap.size #[.slice a2 (m - k) c2, .int .i64 cn] 48) := hid (by rw [← hW9]; exact blk_set BPR.out 0 _)
        have BR9 : Hd (Blk W9 (w.heap.size + 1) #[.slice none 0 0, .int .i64 0] 48) := hid (by rw [← hW9]; exact blk_other BRR.out (by omega) _ _)
        have KA9 : Hd (Keeps (fun _ => False) w W9) := hid (by rw [← hW9]; exact KAR.out.setCell (.inr (Nat.le_refl _)) _)
        have KS9 : Hd (Keeps (fun b => b = w.heap.size) wr W9) := hid (by rw [← hW9]; exact keeps_set _ _ _ _ rfl)
        clear hW9 p0 p1 hcut
        obtain ⟨KF, F2⟩ := fin2 KA9.out (b := w.heap.size + 1) (by omega) BR9.out (.slice a2 (m - k) c2) (.int .i64 cn)
        have KS2 : Hd (Keeps (fun b => b = w.heap.size ∨ b = w.heap.size + 1) wr ((W9.setCell ⟨w.heap.size + 1, 0, none⟩ (.slice a2 (m - k) c2)).setCell ⟨w.heap.size + 1, 1, none⟩ (.int .i64 cn))) := hid (((KS9.out.mono (fun _ _ h => .inl h)).setCell (.inl (.inr rfl)) _).setCell (.inl (.inr rfl)) _)
        have r0 := blk_cell F2 0
        have r1 := blk_cell F2 1
        have HKF := hid KF
        have o0 : W9.cell? ⟨w.heap.size, 0, none⟩ = some (.slice a2 (m - k) c2) := blk_cell BP9.out 0
        have o1 : W9.cell? ⟨w.heap.size, 1, none⟩ = some (.int .i64 cn) := blk_cell BP9.out 1
        have o2 : W9.frozen? ⟨w.heap.size + 1, 0, none⟩ = false := blk_free BR9.out 0
        have o3 : W9.frozen? ⟨w.heap.size + 1, 1, none⟩ = false := blk_free BR9.out 1
        have o4 : W9.cell? ⟨w.heap.size + 1, 0, none⟩ = some (.slice none 0 0) := blk_cell BR9.out 0
        have o5 : W9.cell? ⟨w.heap.size + 1, 1, none⟩ = some (.int .i64 0) := blk_cell BR9.out 1
        clear KF F2
        go_wp2
        refine bodyPost_ret (v := .tuple #[.agg #[.slice a2 (m - k) c2, .int .i64 cn], .slice a k c]) (by simp [results, Tryd.results29, go_sem, r0, r1]) rfl ?_
        refine ⟨a2, m - k, c2, a, k, c, rfl, by rw [HPK.out, List.length_drop, HLN.out], by rw [HPK.out, List.length_take, HLN.out]; omega, ?_, ?_, HKF.out⟩
        · rw [HPK.out]
          have e2 : (xs.drop (k * 5)).take ((m - k) * 5) = xs.drop (k * 5) := List.take_of_length_le (by rw [List.length_drop, hxl.out]; omega)
          have h1 := HR2.out
          rw [e2] at h1
          refine ⟨xs.drop (k * 5), ?_, fls_drop (fun i x hx => ((((HCL.out i x hx).mono (K' := fun b => W.heap.size ≤ b) (fun b _ h => h.1)).keep KR.out (fun _ _ _ h => h)).keep KS2.out (fun b _ h1 h2 => by omega)).mono (fun b _ h => by omega))⟩
          rw [List.length_drop, HLN.out]
          exact ((h1.mono (K' := fun b => W.heap.size ≤ b) (fun b _ h => HGE.out b h)).keep KS2.out (fun b _ h1 h2 => by omega)).mono (fun b _ h => by omega)
        · rw [HPK.out]
          have e3 : (l.take k).length = k := by rw [List.length_take, HLN.out]; omega
          refine ⟨ys, ?_, fun i x hx => ?_⟩
          · rw [e3]
            exact (HY.out.row.keep KS2.out (fun b _ h1 h2 => by omega)).mono (fun b _ h => by omega)
          · have hik : i < k := by have := (List.getElem?_eq_some_iff.1 hx).1; omega
            rw [List.getElem?_take, if_pos hik] at hx
            exact ((HYC.out i x hik hx).keep KS2.out (fun b _ h1 h2 => by omega)).mono (fun b _ h => by omega)
    · have hkm2 : k = m := by omega
      have HPK : Hd (stepK l tick = k) := hid (stepK_at (by rw [HLN.out]; omega) HBE.out (fun y' hy' => by rw [List.getElem?_eq_none (by rw [HLN.out]; omega)] at hy'; cases hy'))
      have k0 : ¬ ((k : Int) < m) := by omega
      clear hkm hkm2 HBE
      obtain ⟨a2, c2, hcut, hr2⟩ := run_cut_from (P := Tryd.prog) (t := 46) Tryd.underlying46 hi5 hy1 HOR.out.row (lo := (k : Int)) k rfl hk
      have HR2 := hid hr2
      have BPR := hid (blk_keep BP1.out KR.out (fun h => h)); have BRR := hid (blk_keep BR1.out KR.out (fun h => h))
      have KAR := hid (KA1.out.trans KR.out)
      have p0 : wr.cell? ⟨w.heap.size, 0, none⟩ = some (.slice af m cf) := blk_cell BPR.out 0
      have p1 : wr.frozen? ⟨w.heap.size, 0, none⟩ = false := blk_free BPR.out 0
      clear hr2
      go_upto_region 8 with fail
      generalize hW9 : World.setCell wr _ _ = W9
      have BP9 : Hd (Blk W9 w.heap.size #[.slice a2 (m - k) c2, .int .i64 cn] 48) := hid (by rw [← hW9]; exact blk_set BPR.out 0 _)
      have BR9 : Hd (Blk W9 (w.heap.size + 1) #[.slice none 0 0, .int .i64 0] 48) := hid (by rw [← hW9]; exact blk_other BRR.out (by omega) _ _)
      have KA9 : Hd (Keeps (fun _ => False) w W9) := hid (by rw [← hW9]; exact KAR.out.setCell (.inr (Nat.le_refl _)) _)
      have KS9 : Hd (Keeps (fun b => b = w.heap.size) wr W9) := hid (by rw [← hW9]; exact keeps_set _ _ _ _ rfl)
      clear hW9 p0 p1 hcut
      obtain ⟨KF, F2⟩ := fin2 KA9.out (b := w.heap.size + 1) (by omega) BR9.out (.slice a2 (m - k) c2) (.int .i64 cn)
      have KS2 : Hd (Keeps (fun b => b = w.heap.size ∨ b = w.heap.size + 1) wr ((W9.setCell ⟨w.heap.size + 1, 0, none⟩ (.slice a2 (m - k) c2)).setCell ⟨w.heap.size + 1, 1, none⟩ (.int .i64 cn))) := hid (((KS9.out.mono (fun _ _ h => .inl h)).setCell (.inl (.inr rfl)) _).setCell (.inl (.inr rfl)) _)
      have r0 := blk_cell F2 0
      have r1 := blk_cell F2 1
      have HKF := hid KF
      have o0 : W9.cell? ⟨w.heap.size, 0, none⟩ = some (.slice a2 (m - k) c2) := blk_cell BP9.out 0
      have o1 : W9.cell? ⟨w.heap.size, 1, none⟩ = some (.int .i64 cn) := blk_cell BP9.out 1
      have o2 : W9.frozen? ⟨w.heap.size + 1, 0, none⟩ = false := blk_free BR9.out 0
      have o3 : W9.frozen? ⟨w.heap.size + 1, 1, none⟩ = false := blk_free BR9.out 1
      have o4 : W9.cell? ⟨w.heap.size + 1, 0, none⟩ = some (.slice none 0 0) := blk_cell BR9.out 0
      have o5 : W9.cell? ⟨w.heap.size + 1, 1, none⟩ = some (.int .i64 0) := blk_cell BR9.out 1
      clear KF F2
      go_wp2
      refine bodyPost_ret (v := .tuple #[.agg #[.slice a2 (m - k) c2, .int .i64 cn], .slice a k c]) (by simp [results, Tryd.results29, go_sem, r0, r1]) rfl ?_
      refine ⟨a2, m - k, c2, a, k, c, rfl, by rw [HPK.out, List.length_drop, HLN.out], by rw [HPK.out, List.length_take, HLN.out]; omega, ?_, ?_, HKF.out⟩
      · rw [HPK.out]
        have e2 : (xs.drop (k * 5)).take ((m - k) * 5) = xs.drop (k * 5) := List.take_of_length_le (by rw [List.length_drop, hxl.out]; omega)
        have h1 := HR2.out
        rw [e2] at h1
        refine ⟨xs.drop (k * 5), ?_, fls_drop (fun i x hx => ((((HCL.out i x hx).mono (K' := fun b => W.heap.size ≤ b) (fun b _ h => h.1)).keep KR.out (fun _ _ _ h => h)).keep KS2.out (fun b _ h1 h2 => by omega)).mono (fun b _ h => by omega))⟩
        rw [List.length_drop, HLN.out]
        exact ((h1.mono (K' := fun b => W.heap.size ≤ b) (fun b _ h => HGE.out b h)).keep KS2.out (fun b _ h1 h2 => by omega)).mono (fun b _ h => by omega)
      · rw [HPK.out]
        have e3 : (l.take k).length = k := by rw [List.length_take, HLN.out]; omega
        refine ⟨ys, ?_, fun i x hx => ?_⟩
        · rw [e3]
          exact (HY.out.row.keep KS2.out (fun b _ h1 h2 => by omega)).mono (fun b _ h => by omega)
        · have hik : i < k := by have := (List.getElem?_eq_some_iff.1 hx).1; omega
          rw [List.getElem?_take, if_pos hik] at hx
          exact ((HYC.out i x hik hx).keep KS2.out (fun b _ h1 h2 => by omega)).mono (fun b _ h => by omega)
end Go.Proofs.YtgfekgceeigdiaaDoor.Li
