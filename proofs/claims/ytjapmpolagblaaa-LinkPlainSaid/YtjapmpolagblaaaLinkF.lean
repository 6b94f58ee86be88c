/- link.Spoil. -/
import Derived.Test.YtjapmpolagblaaaLinkE
import Derived.Laws.CopyOwn
import Derived.Deep.OwnRows
import Derived.Laws.BitsAllLaws
namespace Go.Proofs.Ytjapmpolagblaaa
open Go.RowKit
attribute [local go_sem ↓] Go.wp_at_zero Go.wp_at_succ
/-- a fate: its message, kind, delay, argument, forged bytes -/
structure Ft where
  m : Int
  k : Int
  dl : Int
  a : Int
  fg : List Nat
def FtV (K : Nat → Prop) (w : World) (v : Value) (x : Ft) : Prop := ∃ af cf, v = .agg #[.int .i64 x.m, .int .i64 x.k, .int .i64 x.dl, .int .i64 x.a, .slice af x.fg.length cf] ∧ Sl K w (.slice af x.fg.length cf) (u8s x.fg)
def gPlace (n : Nat) (arg : Int) : Nat := (arg % n).toNat
def spoilL (b : List Nat) (x : Ft) : List Nat :=
  if x.k = 5 then x.fg else if x.k = 3 then b.take (max x.a 0).toNat else if x.k = 4 ∧ b ≠ [] then b.set (gPlace b.length x.a) (255 - b.getD (gPlace b.length x.a) 0) else b
def SpoilRet (w : World) (xs : List Nat) (r : Ending) (w' : World) : Prop := ∃ a c, r = .returned (.slice a xs.length c) ∧ Sl (fun b => w.heap.size ≤ b) w' (.slice a xs.length c) (u8s xs) ∧ Keeps (fun _ => False) w w'
theorem place_eq (n : Nat) (arg : Int) (h0 : 0 < n) (hn : n ≤ 1000000000) : wrap64 (arg.tmod n + n) = arg.tmod n + n ∧ (arg.tmod n + n).tmod n = (gPlace n arg : Nat) ∧ gPlace n arg < n := by
  have h4 : (arg.tmod n).natAbs < n := by
    rw [Int.natAbs_tmod]; exact Nat.mod_lt _ (by simpa using h0)
  have h5 : 0 ≤ arg % (n : Int) := Int.emod_nonneg _ (by omega)
  have h6 : arg % (n : Int) < n := Int.emod_lt_of_pos _ (by omega)
  refine ⟨by unfold wrap64; omega, ?_, by unfold gPlace; omega⟩
  unfold gPlace
  rw [Int.tmod_eq_emod_of_nonneg (by omega), Int.add_emod_right, Int.toNat_of_nonneg h5]
  have := Int.tmod_add_mul_tdiv arg n
  have e : arg.tmod n = arg - n * arg.tdiv n := by omega
  rw [e, Int.sub_mul_emod_self_left]
theorem infoU8s : (Try.prog.info? 5).map (·.size) = some 1 := by kernel_rfl
theorem splice_all {xs ys : List Value} (h : xs.length = ys.length) : splice xs 0 ys = ys := by
  unfold splice; simp [List.drop_eq_nil_of_le (by omega : xs.length ≤ ys.length)]
theorem getD_lt {l : List Nat} (hl : ∀ c ∈ l, c < 256) (j : Nat) : l.getD j 0 < 256 := by
  rcases Nat.lt_or_ge j l.length with h | h
  · have := hl l[j] (List.getElem_mem h)
    simpa [List.getD, h] using this
  · simp [List.getD, List.getElem?_eq_none h]
set_option maxRecDepth 100000 in
theorem not_u8 (c : Nat) (hc : c < 256) : bits BinOp.xor IntKind.u8 IntKind.u8.max (c : Int) = ((255 - c : Nat) : Int) := by
  have h := u8_xor_nat 255 c (by omega) hc
  have h2 : ∀ c, c < 256 → 255 ^^^ c = 255 - c := by decide
  rw [h2 c hc] at h
  exact h
theorem own_take {S : Nat → Prop} {w : World} {e : TypeId} {g n c : Nat} {l : List Nat} (h : Own S w e 1 (.slice (some ⟨g, 0, none⟩) n c) n (u8s l)) (j : Nat) (hj : j ≤ n) : Sl S w (.slice (some ⟨g, 0, none⟩) j c) (u8s (l.take j)) := by
  obtain ⟨a, cap, e1, h1, h2, h3⟩ := h.row.form
  injection e1 with e1 e2 e3
  subst e1; subst e3
  have hl : l.length = n := by have := h.row.1; rw [u8s_length] at this; omega
  have hl2 : (u8s (l.take j)).length = j := by rw [u8s_length, List.length_take]; omega
  refine ⟨by omega, .inr ⟨⟨g, 0, none⟩, c, by rw [hl2], by omega, h2, fun hp => ?_⟩⟩
  rw [hl2] at hp
  obtain ⟨b, o, e4, h5, h6, h7⟩ := h3 (by omega)
  refine ⟨b, o, by injection e4, h5, h6, fun i hi => ?_⟩
  have := h7 i (by omega)
  rw [this]
  have hij : i < j := by omega
  simp [u8s, List.getD, hij]
set_option maxRecDepth 100000 in set_option maxHeartbeats 1000000 in
theorem Spoil_any (_ : Nat → Prop) (v : Value) (b : List Nat) (fv : Value) (x : Ft) (w : World) (hv : Sl (fun b => b < w.heap.size) w v (u8s b)) (hf : FtV (fun b => b < w.heap.size) w fv x) (hb : ∀ c ∈ b, c < 256) (hm : b.length ≤ 1000000000) (hm2 : x.fg.length ≤ 1000000000) :
    Calls Try.prog 24 #[v, fv] w fun e w' => SpoilRet w (spoilL b x) e w' := by
  obtain ⟨af, cf, rfl, hf1⟩ := hf
  have HF := hid hf1; have HV := hid hv; have HB := hid hb
  obtain ⟨a, cap, rfl, q1, q2, _⟩ := hv.bytes
  clear hv hf1 hb
  by_cases k5 : x.k = 5
  · have h5 : (x.k == 5) = true := by simp; exact k5
    have h3 : (x.k == 3) = false := by rw [k5]; rfl
    have h4 : (x.k == 4) = false := by rw [k5]; rfl
    have HSP : Hd (spoilL b x = x.fg) := hid (by unfold spoilL; rw [if_pos k5])
    clear k5
    have hmk := run_make_row' (P := Try.prog) 35 5 (.int .u8 0) 1 Try.underlying35 infoU8 rfl .i64 .i64 x.fg.length (by omega) (by omega)
    generalize hbl : x.fg.length = n at *
    have HBL := hid hbl; clear hbl
    go_enter Try.func24, Try.ntmps24
    go_upto_region 1 with fail
    generalize hW : World.alloc w _ = W
    have BX : Hd (Blk W w.heap.size #[.int .i64 x.m, .int .i64 x.k, .int .i64 x.dl, .int .i64 x.a, .slice af n cf] 64) := hid (by rw [← hW]; exact blk_new _ _ _)
    have KW : Hd (Keeps (fun _ => False) w W) := hid (by rw [← hW]; exact keeps_alloc _ _ _)
    have zW := KW.out.size
    have zX := blk_lt BX.out
    clear hW
    have o1 : W.cell? ⟨w.heap.size, 1, none⟩ = some (.int .i64 x.k) := blk_cell BX.out 1
    have o4 : W.cell? ⟨w.heap.size, 4, none⟩ = some (.slice af n cf) := blk_cell BX.out 4
    go_upto_region 4 with fail
    generalize hW2 : World.alloc W _ = W2
    have BO : Hd (Blk W2 W.heap.size (madeCells #[.int .u8 0] n) 5) := hid (by rw [← hW2]; exact blk_new _ _ _)
    have KW2 : Hd (Keeps (fun _ => False) W W2) := hid (by rw [← hW2]; exact keeps_alloc _ _ _)
    clear hW2 o1 o4
    have SV : Hd (Sl (fun b => b < w.heap.size) W2 (.slice af n cf) (u8s x.fg)) := hid (HF.out.keep (KW.out.trans KW2.out) (fun _ _ _ h => h))
    have P1 := hid (show W2.heap[W.heap.size]? = some (.cells (madeCells #[.int .u8 0] n).toList.toArray 5 (0, 0)) by rw [Array.toArray_toList]; exact BO.out)
    have P2 := hid (show (u8s x.fg).length = Nat.min n n by rw [u8s_length, HBL.out]; exact (Nat.min_self n).symm)
    have P3 := hid (show 0 + (u8s x.fg).length ≤ (madeCells #[.int .u8 0] n).toList.length by rw [u8s_length, HBL.out]; simp [madeCells])
    have P4 : Hd (0 < (u8s x.fg).length → (some (⟨W.heap.size, 0, none⟩ : Addr)) = some ⟨W.heap.size, 0, none⟩ ∧ ∃ ad, af = some ad ∧ ∀ j v, (u8s x.fg)[j]? = some v → W2.cell? (ad.add j) = some v) := hid (by
      intro hp
      obtain ⟨a', cap', e1, _, _, hx⟩ := SV.out.bytes
      rw [u8s_length] at hp
      obtain ⟨bb, o, ea, _, _, hc⟩ := hx hp
      injection e1 with e1 _ _
      refine ⟨rfl, ⟨bb, o, none⟩, e1.trans ea, fun j u hu => ?_⟩
      have hj : j < x.fg.length := by have := (List.getElem?_eq_some_iff.1 hu).1; rw [u8s_length] at this; exact this
      have := hc j hj
      rw [show (⟨bb, o, none⟩ : Addr).add j = ⟨bb, o + j, none⟩ by unfold Addr.add; split <;> simp_all, this]
      rw [← u8s_getD _ _ hj, List.getD, hu]; rfl)
    go_wp2_with (with_reducible refine wpList_copy_splice rfl (.tmp 16) (.tmp 17) 35 35 rfl 5 Try.underlying35 infoU8s _ _ n n n cf rfl rfl W.heap.size 0 (madeCells #[.int .u8 0] n).toList 5 P1.out (u8s x.fg) P2.out P4.out P3.out (u8s_one _) W.heap.size W2 (Below.refl _ _) (Nat.le_refl _) ?_)
    intro w2 hg2 hb2
    have B2 : Hd (Blk w2 W.heap.size (u8s x.fg).toArray 5) := hid (by
      have := hg2.out; rw [splice_all (by rw [u8s_length, HBL.out]; simp [madeCells])] at this; exact this)
    have KB : Hd (Keeps (fun i => W.heap.size ≤ i) W2 w2) := hid (Keeps.of_below hb2)
    have BX2 : Hd (Blk w2 w.heap.size #[.int .i64 x.m, .int .i64 x.k, .int .i64 x.dl, .int .i64 x.a, .slice af n cf] 64) := hid (blk_keep (blk_keep BX.out KW2.out (fun h => h)) KB.out (by omega))
    have K2 : Hd (Keeps (fun _ => False) w w2) := hid ((KW.out.trans KW2.out).trans' KB.out (fun i hi h => by omega))
    have HOW : Hd (Own (fun i => w.heap.size ≤ i) w2 5 1 (.slice (some ⟨W.heap.size, 0, none⟩) n n) n (u8s x.fg)) := hid ⟨⟨by rw [u8s_length, HBL.out, Nat.mul_one], .inr ⟨W.heap.size, n, (u8s x.fg).toArray, rfl, Nat.zero_le _, B2.out, Nat.le_refl _, by unfold maxLen; omega, by simp [HBL.out], by simp only [Nat.mul_one]; rw [List.take_of_length_le (by rw [u8s_length, HBL.out]; exact Nat.le_refl _)]⟩⟩, fun i hi => by injection hi with hi; simp at hi; omega⟩
    clear hg2 hb2 P1 P2 P3 P4 BO SV KW2 KB B2 hmk
    have o1 : w2.cell? ⟨w.heap.size, 1, none⟩ = some (.int .i64 x.k) := blk_cell BX2.out 1
    have o3 : w2.cell? ⟨w.heap.size, 3, none⟩ = some (.int .i64 x.a) := blk_cell BX2.out 3
    have HR : Hd (SpoilRet w (spoilL b x) (.returned (.slice (some ⟨W.heap.size, 0, none⟩) n n)) w2) := hid (by
      rw [HSP.out]
      refine ⟨_, _, by rw [HBL.out], ?_, K2.out⟩
      have := own_take HOW.out n (Nat.le_refl _)
      rw [List.take_of_length_le (by rw [HBL.out]; exact Nat.le_refl _)] at this
      rw [HBL.out]; exact this)
    clear HOW
    go_wp2
    all_goals (go_ret; exact HR.out)
  · have h5 : (x.k == 5) = false := by simp; exact k5
    have hmk := run_make_row' (P := Try.prog) 35 5 (.int .u8 0) 1 Try.underlying35 infoU8 rfl .i64 .i64 b.length (by omega) (by omega)
    generalize hbl : b.length = n at *
    have HBL := hid hbl; clear hbl
    go_enter Try.func24, Try.ntmps24
    go_upto_region 1 with fail
    generalize hW : World.alloc w _ = W
    have BX : Hd (Blk W w.heap.size #[.int .i64 x.m, .int .i64 x.k, .int .i64 x.dl, .int .i64 x.a, .slice af x.fg.length cf] 64) := hid (by rw [← hW]; exact blk_new _ _ _)
    have KW : Hd (Keeps (fun _ => False) w W) := hid (by rw [← hW]; exact keeps_alloc _ _ _)
    have zW := KW.out.size
    have zX := blk_lt BX.out
    clear hW
    have o1 : W.cell? ⟨w.heap.size, 1, none⟩ = some (.int .i64 x.k) := blk_cell BX.out 1
    go_upto_region 4 with fail
    generalize hW2 : World.alloc W _ = W2
    have BO : Hd (Blk W2 W.heap.size (madeCells #[.int .u8 0] n) 5) := hid (by rw [← hW2]; exact blk_new _ _ _)
    have KW2 : Hd (Keeps (fun _ => False) W W2) := hid (by rw [← hW2]; exact keeps_alloc _ _ _)
    clear hW2 o1
    have SV : Hd (Sl (fun b => b < w.heap.size) W2 (.slice a n cap) (u8s b)) := hid (HV.out.keep (KW.out.trans KW2.out) (fun _ _ _ h => h))
    have P1 := hid (show W2.heap[W.heap.size]? = some (.cells (madeCells #[.int .u8 0] n).toList.toArray 5 (0, 0)) by rw [Array.toArray_toList]; exact BO.out)
    have P2 := hid (show (u8s b).length = Nat.min n n by rw [u8s_length, HBL.out]; exact (Nat.min_self n).symm)
    have P3 := hid (show 0 + (u8s b).length ≤ (madeCells #[.int .u8 0] n).toList.length by rw [u8s_length, HBL.out]; simp [madeCells])
    have P4 : Hd (0 < (u8s b).length → (some (⟨W.heap.size, 0, none⟩ : Addr)) = some ⟨W.heap.size, 0, none⟩ ∧ ∃ ad, a = some ad ∧ ∀ j v, (u8s b)[j]? = some v → W2.cell? (ad.add j) = some v) := hid (by
      intro hp
      obtain ⟨a', cap', e1, _, _, hx⟩ := SV.out.bytes
      rw [u8s_length] at hp
      obtain ⟨bb, o, ea, _, _, hc⟩ := hx hp
      injection e1 with e1 _ _
      refine ⟨rfl, ⟨bb, o, none⟩, e1.trans ea, fun j u hu => ?_⟩
      have hj : j < b.length := by have := (List.getElem?_eq_some_iff.1 hu).1; rw [u8s_length] at this; exact this
      have := hc j hj
      rw [show (⟨bb, o, none⟩ : Addr).add j = ⟨bb, o + j, none⟩ by unfold Addr.add; split <;> simp_all, this]
      rw [← u8s_getD _ _ hj, List.getD, hu]; rfl)
    go_wp2_with (with_reducible refine wpList_copy_splice rfl (.tmp 16) (.tmp 17) 35 35 rfl 5 Try.underlying35 infoU8s _ _ n n n cap rfl rfl W.heap.size 0 (madeCells #[.int .u8 0] n).toList 5 P1.out (u8s b) P2.out P4.out P3.out (u8s_one _) W.heap.size W2 (Below.refl _ _) (Nat.le_refl _) ?_)
    intro w2 hg2 hb2
    have B2 : Hd (Blk w2 W.heap.size (u8s b).toArray 5) := hid (by
      have := hg2.out; rw [splice_all (by rw [u8s_length, HBL.out]; simp [madeCells])] at this; exact this)
    have KB : Hd (Keeps (fun i => W.heap.size ≤ i) W2 w2) := hid (Keeps.of_below hb2)
    have BX2 : Hd (Blk w2 w.heap.size #[.int .i64 x.m, .int .i64 x.k, .int .i64 x.dl, .int .i64 x.a, .slice af x.fg.length cf] 64) := hid (blk_keep (blk_keep BX.out KW2.out (fun h => h)) KB.out (by omega))
    have K2 : Hd (Keeps (fun _ => False) w w2) := hid ((KW.out.trans KW2.out).trans' KB.out (fun i hi h => by omega))
    have HOW : Hd (Own (fun i => w.heap.size ≤ i) w2 5 1 (.slice (some ⟨W.heap.size, 0, none⟩) n n) n (u8s b)) := hid ⟨⟨by rw [u8s_length, HBL.out, Nat.mul_one], .inr ⟨W.heap.size, n, (u8s b).toArray, rfl, Nat.zero_le _, B2.out, Nat.le_refl _, by unfold maxLen; omega, by simp [HBL.out], by simp only [Nat.mul_one]; rw [List.take_of_length_le (by rw [u8s_length, HBL.out]; exact Nat.le_refl _)]⟩⟩, fun i hi => by injection hi with hi; simp at hi; omega⟩
    clear hg2 hb2 P1 P2 P3 P4 BO SV KW2 KB B2 hmk
    have o1 : w2.cell? ⟨w.heap.size, 1, none⟩ = some (.int .i64 x.k) := blk_cell BX2.out 1
    have o3 : w2.cell? ⟨w.heap.size, 3, none⟩ = some (.int .i64 x.a) := blk_cell BX2.out 3
    have HNE : Hd (n = 0 ↔ b = []) := hid (by rw [← HBL.out]; exact List.length_eq_zero_iff)
    by_cases k3 : x.k = 3
    · have h3 : (x.k == 3) = true := by simp; exact k3
      obtain ⟨j, hj⟩ : ∃ j, j = min n (max x.a 0).toNat := ⟨_, rfl⟩
      have HL : Hd (spoilL b x = b.take j) := hid (by
        unfold spoilL
        rw [if_neg k5, if_pos k3, hj, ← HBL.out]
        rcases Nat.le_total b.length (max x.a 0).toNat with h | h
        · rw [Nat.min_eq_left h, List.take_of_length_le h, List.take_length]
        · rw [Nat.min_eq_right h])
      have HR : Hd (SpoilRet w (spoilL b x) (.returned (.slice (some ⟨W.heap.size, 0, none⟩) j n)) w2) := hid (by
        have hlen : (b.take j).length = j := by rw [List.length_take, HBL.out]; omega
        refine ⟨_, _, by rw [HL.out, hlen], ?_, K2.out⟩
        rw [HL.out, hlen]
        exact own_take HOW.out j (by omega))
      clear k3 k5 HOW HL
      rcases (show (x.a < 0 ∧ j = 0) ∨ (0 ≤ x.a ∧ x.a < n ∧ (j : Int) = x.a) ∨ (0 ≤ x.a ∧ (n : Int) ≤ x.a ∧ j = n) by omega) with ⟨g1, g2⟩ | ⟨g1, g2, g3⟩ | ⟨g1, g2, g3⟩
      · subst g2
        clear hj
        rcases Nat.eq_zero_or_pos n with h0 | h0
        · subst h0
          go_wp2
          all_goals (go_ret; exact HR.out)
        · have n1 : (0 : Int) < n := by omega
          go_wp2
          all_goals (first | (go_ret; exact HR.out) | (exfalso; omega) | trace_state)
      · clear hj
        have g4 : x.a.toNat = j := by omega
        go_wp2
        all_goals (first | (go_ret; exact HR.out) | (exfalso; omega) | trace_state)
      · clear hj
        subst g3
        go_wp2
        all_goals (first | (go_ret; exact HR.out) | (exfalso; omega) | trace_state)
    · have h3 : (x.k == 3) = false := by simp; exact k3
      by_cases k4 : x.k = 4
      · have h4 : (x.k == 4) = true := by simp; exact k4
        by_cases hn0 : n = 0
        · have HR : Hd (SpoilRet w (spoilL b x) (.returned (.slice (some ⟨W.heap.size, 0, none⟩) n n)) w2) := hid (by
            have e : spoilL b x = b := by unfold spoilL; rw [if_neg k5, if_neg k3, if_neg (fun h => h.2 (HNE.out.1 hn0))]
            rw [e]
            refine ⟨_, _, by rw [HBL.out], ?_, K2.out⟩
            have := own_take HOW.out n (Nat.le_refl _)
            rw [List.take_of_length_le (by rw [HBL.out]; exact Nat.le_refl _)] at this
            rw [HBL.out]; exact this)
          clear k3 k4 k5 HOW HNE
          subst hn0
          go_wp2
          all_goals (go_ret; exact HR.out)
        · obtain ⟨z1, z2, z3⟩ := place_eq n x.a (by omega) (by omega)
          have HE : Hd (spoilL b x = b.set (gPlace n x.a) (255 - b.getD (gPlace n x.a) 0)) := hid (by
            unfold spoilL; rw [if_neg k5, if_neg k3, if_pos ⟨k4, fun h => hn0 (HNE.out.2 h)⟩, HBL.out])
          generalize gPlace n x.a = j at *
          have HC := hid (getD_lt HB.out j)
          have hc : w2.cell? ⟨W.heap.size, j, none⟩ = some (.int .u8 (b.getD j 0 : Nat)) := by
            rw [HOW.out.1.cellAt j (by omega), ← u8s_getD b j (by rw [HBL.out]; exact z3), List.getD, List.getElem?_eq_getElem (by rw [u8s_length, HBL.out]; exact z3)]; rfl
          have hf : w2.frozen? ⟨W.heap.size, j, none⟩ = false := HOW.out.1.frozenAt _
          have HST := hid (HOW.out.1.stored j (.int .u8 (255 - b.getD j 0 : Nat)))
          have HR : Hd (SpoilRet w (spoilL b x) (.returned (.slice (some ⟨W.heap.size, 0, none⟩) n n)) (w2.setCell ⟨W.heap.size, j, none⟩ (.int .u8 (255 - b.getD j 0 : Nat)))) := hid (by
            have hlen : (b.set j (255 - b.getD j 0)).length = n := by rw [List.length_set, HBL.out]
            have hu : (u8s b).set j (.int .u8 (255 - b.getD j 0 : Nat)) = u8s (b.set j (255 - b.getD j 0)) := by simp [u8s, List.map_set]
            have ho : Own (fun i => w.heap.size ≤ i) (w2.setCell ⟨W.heap.size, j, none⟩ (.int .u8 (255 - b.getD j 0 : Nat))) 5 1 (.slice (some ⟨W.heap.size, 0, none⟩) n n) n (u8s (b.set j (255 - b.getD j 0))) := ⟨by rw [← hu]; exact HST.out.1, HOW.out.2⟩
            have := own_take ho n (Nat.le_refl _)
            rw [List.take_of_length_le (by rw [hlen]; exact Nat.le_refl _)] at this
            rw [HE.out]
            refine ⟨_, _, by rw [hlen], by rw [hlen]; exact this, K2.out.trans' (keeps_set (fun k => w.heap.size ≤ k) w2 _ _ (by show w.heap.size ≤ W.heap.size; omega)) (fun i hi hs => by omega)⟩)
          clear k3 k4 k5 HOW HST HE HNE
          have n1 : (0 : Int) < n := by omega
          have n2 : ((n : Int) == 0) = false := by simp; omega
          generalize b.getD j 0 = c at *
          have HX := hid (not_u8 c HC.out)
          go_wp2
          all_goals (go_ret; rw [HX.out]; exact HR.out)
      · have h4 : (x.k == 4) = false := by simp; exact k4
        have HR : Hd (SpoilRet w (spoilL b x) (.returned (.slice (some ⟨W.heap.size, 0, none⟩) n n)) w2) := hid (by
          have e : spoilL b x = b := by unfold spoilL; rw [if_neg k5, if_neg k3, if_neg (fun h => k4 h.1)]
          rw [e]
          refine ⟨_, _, by rw [HBL.out], ?_, K2.out⟩
          have := own_take HOW.out n (Nat.le_refl _)
          rw [List.take_of_length_le (by rw [HBL.out]; exact Nat.le_refl _)] at this
          rw [HBL.out]; exact this)
        clear k3 k4 k5 HOW HNE
        go_wp2
        all_goals (go_ret; exact HR.out)
end Go.Proofs.Ytjapmpolagblaaa
