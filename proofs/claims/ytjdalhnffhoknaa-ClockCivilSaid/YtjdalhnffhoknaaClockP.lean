/- The walk of the reference's Table, and of the law ClockChecks. -/
import Derived.Test.YtjdalhnffhoknaaClockK
namespace Go.Proofs.Ytjdalhnffhoknaa
open Go.RowKit

def tbAt (l : List Int) : Nat → Int
  | 0 => -1
  | k + 1 => tbAt l k + 1 + around (l.getD (2 * k) 0) 1000
theorem tbAt_b (l : List Int) : ∀ k : Nat, -1 ≤ tbAt l k ∧ tbAt l k ≤ 1000 * k - 1
  | 0 => by simp [tbAt]
  | k + 1 => by
    have h1 := tbAt_b l k
    have h2 := around_b (l.getD (2 * k) 0) 1000 (by omega)
    unfold tbAt; omega
def tbEnt (l : List Int) (j : Nat) : Lp := ⟨tbAt l (j + 1), around (l.getD (2 * j + 1) 0) 201 - 100⟩
def tbFrom (l : List Int) : Nat → Nat → List Lp
  | _, 0 => []
  | j, n + 1 => tbEnt l j :: tbFrom l (j + 1) n
theorem tbFrom_snoc (l : List Int) : ∀ n j, tbFrom l j (n + 1) = tbFrom l j n ++ [tbEnt l (j + n)]
  | 0, j => rfl
  | n + 1, j => by
    have := tbFrom_snoc l n (j + 1)
    rw [tbFrom, this, tbFrom, show j + 1 + n = j + (n + 1) by omega]; rfl
theorem tbFrom_len (l : List Int) : ∀ n j, (tbFrom l j n).length = n
  | 0, _ => rfl
  | n + 1, j => by simp [tbFrom, tbFrom_len l n]
theorem tbEnt_ok (l : List Int) (j : Nat) (h : j < 8) : ¬ (tbEnt l j).bad ∧ tbAt l j < (tbEnt l j).at_ := by
  have h1 := tbAt_b l (j + 1)
  have h3 := tbAt_b l j
  have h2 := around_b (l.getD (2 * j + 1) 0) 201 (by omega)
  have h4 := around_b (l.getD (2 * j) 0) 1000 (by omega)
  have h5 : tbAt l (j + 1) = tbAt l j + 1 + around (l.getD (2 * j) 0) 1000 := rfl
  unfold Lp.bad tbEnt; simp only; omega
theorem tbFrom_chk (l : List Int) : ∀ n j, j + n ≤ 8 → chkFrom (tbAt l j) (tbFrom l j n) = 0
  | 0, _, _ => rfl
  | n + 1, j, h => by
    have h1 := tbEnt_ok l j (by omega)
    rw [tbFrom, chkFrom, if_neg h1.1, if_neg (by omega)]
    exact tbFrom_chk l n (j + 1) (by omega)
def tabOf (l : List Int) : List Lp := tbFrom l 0 (min (l.length / 2) 8)
theorem tabOf_len (l : List Int) : (tabOf l).length ≤ 8 := by unfold tabOf; rw [tbFrom_len]; omega
theorem tabOf_chk (l : List Int) : chk (tabOf l) = 0 := by
  have := tabOf_len l
  unfold chk
  rw [if_neg (by omega)]
  exact tbFrom_chk l _ 0 (by omega)
theorem infoLeap : (Try.prog.info? 69).map (fun i => (i.zero, i.size, i.bytes)) = some (some (.agg #[.int .i64 0, .int .i64 0]), 2, 16) := by kernel_rfl
theorem src_two {K : Nat → Prop} {w : World} (x y : Value) (t : TypeId) (hK : K w.heap.size) : Row K (w.alloc (.cells #[x, y] t)) 2 (.slice (some ⟨w.heap.size, 0, none⟩) 1 1) 1 [x, y] :=
  ⟨rfl, .inr ⟨_, 1, rfl, Nat.le_refl _, by simp [maxLen], fun _ => ⟨w.heap.size, 0, rfl, hK, by simp, fun j hj => by
    rw [Nat.zero_add, blk_cell (blk_new w #[x, y] t)]
    rcases j with _ | _ | j
    · rfl
    · rfl
    · omega⟩⟩⟩
theorem lpc_snoc (l : List Lp) (x : Lp) : lpc (l ++ [x]) = lpc l ++ [.int .i64 x.at_, .int .i64 x.off] := by simp [lpc]
def TabRet (l : List Lp) (w : World) (r : Ending) (w' : World) : Prop := ∃ a c, r = .returned (.slice a l.length c) ∧ Tab (fun k => w.heap.size ≤ k) w' (.slice a l.length c) l ∧ Keeps (fun _ => False) w w'
set_option maxRecDepth 100000 in set_option maxHeartbeats 1000000 in
theorem Table_any (K : Nat → Prop) (v : Value) (l : List Int) (w : World) (hv : Sl K w v (i64s l)) (hl : ∀ n ∈ l, -9223372036854775808 ≤ n ∧ n ≤ 9223372036854775807) :
    Calls Try.prog 28 #[v] w fun e w' => TabRet (tabOf l) w e w' := by
  obtain ⟨i0, hi, hz0, hz1, hz2⟩ := info_parts infoLeap
  have HL := hid hl; have HV : Hd (Sl (fun b => b < w.heap.size) w v (i64s l)) := hid (hv.mono (fun b h _ => h))
  obtain ⟨a, cap, rfl, q1, q2, q3⟩ := hv.ints
  unfold maxLen at q2
  clear hl hv q3
  have HT : Hd (tabOf l = tbFrom l 0 (min (l.length / 2) 8)) := hid rfl
  generalize hll : l.length = n at *
  have HLL := hid hll; clear hll
  go_enter Try.func28, Try.ntmps28
  go_wp2_with fail
  go_loopw [3, 4, 5] (fun o t i wr => ∃ (k : Nat) (a3 : Option Addr) (m c : Nat), i = .int .i64 (2 * (k : Int)) ∧ t = .int .i64 (tbAt l k) ∧ o = .slice a3 m c ∧ k ≤ 8 ∧ 2 * k ≤ n ∧ Hd (m = k) ∧ Hd (Own (fun b => w.heap.size ≤ b) wr 69 2 (.slice a3 m c) m (lpc (tbFrom l 0 k))) ∧ Hd (Keeps (fun _ => False) w wr)) (fun _ _ i _ => 16 - (intOf i).toNat)
  case atStart => exact ⟨0, none, 0, 0, rfl, rfl, rfl, by omega, by omega, hid rfl, hid (Own.nil _ _ _ _), hid (Keeps.refl _ _)⟩
  case round =>
    obtain ⟨k, a3, m, c, rfl, rfl, rfl, hk8, hkn, hm, hown, hkeep⟩ := hrel
    have hz := hkeep.out.size
    have hm8 : m ≤ 8 := by have := hm.out; omega
    by_cases h1 : 2 * k + 1 < n
    · by_cases h2 : k < 8
      · have hk0 : 2 * k < l.length := by rw [HLL.out]; omega
        have hk1 : 2 * k + 1 < l.length := by rw [HLL.out]; omega
        obtain ⟨a', cap', hva, _, _, hx⟩ := (HV.out.keep hkeep.out (fun _ _ _ h => h)).ints
        rw [HLL.out] at hva hx
        injection hva with hva1 hva2 hva3
        obtain ⟨b, o, hb, _, hbl, hc⟩ := hx (by omega)
        subst hb
        subst hva1
        have c0 := hc (2 * k) (by omega)
        have c1 := hc (2 * k + 1) (by omega)
        have g0 : -9223372036854775808 ≤ l.getD (2 * k) 0 ∧ l.getD (2 * k) 0 ≤ 9223372036854775807 := by
          simp only [List.getD, List.getElem?_eq_getElem hk0]; exact HL.out _ (List.getElem_mem hk0)
        have g1 : -9223372036854775808 ≤ l.getD (2 * k + 1) 0 ∧ l.getD (2 * k + 1) 0 ≤ 9223372036854775807 := by
          simp only [List.getD, List.getElem?_eq_getElem hk1]; exact HL.out _ (List.getElem_mem hk1)
        have G0 := hid g0; have G1 := hid g1
        have HS := hid (tbFrom_snoc l k 0)
        have HE : Hd (tbEnt l (0 + k) = ⟨tbAt l k + 1 + around (l.getD (2 * k) 0) 1000, around (l.getD (2 * k + 1) 0) 201 - 100⟩) := hid (by rw [Nat.zero_add]; rfl)
        have HA : Hd (tbAt l (k + 1) = tbAt l k + 1 + around (l.getD (2 * k) 0) 1000) := hid rfl
        obtain ⟨b0, b1⟩ := tbAt_b l k
        obtain ⟨p0, p1⟩ := around_b (l.getD (2 * k) 0) 1000 (by omega)
        obtain ⟨p2, p3⟩ := around_b (l.getD (2 * k + 1) 0) 201 (by omega)
        clear hx hc hva2 hva3 g0 g1 hk0 hk1
        generalize l.getD (2 * k) 0 = x at *
        generalize l.getD (2 * k + 1) 0 = y at *
        generalize tbAt l k = t at *
        have e0 : (0 : Int) ≤ 2 * (k : Int) := by omega
        have e1 : 2 * (k : Int) < n := by omega
        have e2 : 2 * (k : Int) + 1 < n := by omega
        have e3 : (2 * (k : Int)).toNat = 2 * k := by omega
        have e4 : (2 * (k : Int) + 1).toNat = 2 * k + 1 := by omega
        go_wp2_with fail
        refine (Around_any _ _ _ G0.out.1 G0.out.2 (by omega) (by omega)).mono ?_
        rintro e w1 ⟨rfl, rfl⟩
        generalize around x 1000 = p at *
        go_wp2_with fail
        refine (Bound_any _ _ _ G1.out.1 G1.out.2 (by omega) (by omega)).mono ?_
        rintro e w1 ⟨rfl, rfl⟩
        rw [show (2 : Int) * 100 + 1 = 201 by rfl]
        generalize around y 201 - 100 = q at *
        go_wp2_with (at_builtin; refine wpList_append_row rfl _ _ 43 rfl 69 i0 (.agg #[.int .i64 0, .int .i64 0]) 2 16 Try.underlying43 hi hz0 hz1 hz2 rfl (by decide) _ (fun _ => True) _ _ _ _ rfl (hown.out.alloc _) 1 _ rfl (src_two _ _ _ trivial) (by intro u hu; simp at hu; rcases hu with rfl | rfl <;> rfl) ?h1 ?h2 ?_)
        case h1 => simp [maxLen]; omega
        case h2 => omega
        intro a1 cap1 w2 hown' hgrow; try intro _
        have H5 := hid hown'
        have HK5 : Hd (Keeps (fun b => w.heap.size ≤ b) wr w2) := hid ((keeps_alloc _ wr _).trans hgrow)
        clear hown' hgrow
        go_wp2
        go_roundw
        case rel =>
          refine ⟨k + 1, a1, m + 1, cap1, by go_num, by rw [HA.out], rfl, by omega, by omega, hid (by have := hm.out; omega), hid ?_, hid (hkeep.out.after HK5.out)⟩
          have := H5.out.mono (K' := fun b => w.heap.size ≤ b) (fun b _ hb => by rcases hb with hb | hb <;> omega)
          rw [HS.out, lpc_snoc, HE.out]
          exact this
        case measure => simp [intOf]; omega
      · have HF : Hd (tabOf l = tbFrom l 0 k) := hid (by rw [HT.out]; congr 1; omega)
        have t0 : (2 * (k : Int)) < 16 → False := by omega
        go_wp2
        go_ret
        have hn : (tbFrom l 0 k).length = m := by rw [tbFrom_len, hm.out]
        refine ⟨a3, c, ?_, ?_, hkeep.out⟩
        · rw [HF.out, hn]; rfl
        · rw [HF.out, hn]; unfold Tab; rw [hn]; exact hown.out.row
    · have HF : Hd (tabOf l = tbFrom l 0 k) := hid (by rw [HT.out]; congr 1; omega)
      go_wp2
      go_ret
      have hn : (tbFrom l 0 k).length = m := by rw [tbFrom_len, hm.out]
      refine ⟨a3, c, ?_, ?_, hkeep.out⟩
      · rw [HF.out, hn]; rfl
      · rw [HF.out, hn]; unfold Tab; rw [hn]; exact hown.out.row
set_option maxRecDepth 100000 in set_option maxHeartbeats 1000000 in
theorem checks_any (v v2 : Value) (tab : List Lp) (l : List Int) (w : World) (hv : Tab (fun b => b < w.heap.size) w v tab) (hv2 : Sl (fun b => b < w.heap.size) w v2 (i64s l)) (hl : ∀ n ∈ l, -9223372036854775808 ≤ n ∧ n ≤ 9223372036854775807) :
    Calls Try.prog 8 #[v, v2] w fun e w' => e = .returned (.bool true) ∧ Keeps (fun _ => False) w w' := by
  have HV := hid hv; have HV2 := hid hv2; have HL := hid hl
  obtain ⟨a, cap, rfl, hx⟩ := hv.form
  obtain ⟨a2, cap2, rfl, hx2⟩ := hv2.ints
  clear hv hv2 hl hx hx2
  go_enter Try.func8, Try.ntmps8
  go_wp2_with fail
  refine (CheckLeaps_any _ tab _ _ HV.out).mono ?_
  rintro e w1 ⟨rfl, hk⟩
  have K1 := hid hk; clear hk
  go_wp2_with fail
  refine (RCheck_any _ tab _ _ (HV.out.keep K1.out (fun _ _ _ h => h))).mono ?_
  rintro e w2 ⟨rfl, hk⟩
  have K2 := hid (K1.out.trans hk); clear hk
  generalize chk tab = ch at *
  go_wp2_with fail
  refine (Table_any _ _ l _ (HV2.out.keep K2.out (fun _ _ _ h => h)) HL.out).mono ?_
  rintro e w3 ⟨a3, c3, rfl, ht, hk⟩
  have HT3 := hid ht; have K3 := hid (K2.out.trans hk); clear ht hk
  go_wp2_with fail
  refine (CheckLeaps_any _ (tabOf l) _ _ HT3.out).mono ?_
  rw [tabOf_chk]
  rintro e w4 ⟨rfl, hk⟩
  have K4 := hid (K3.out.trans hk); clear hk
  go_wp2_with fail
  refine (lives_any _).mono ?_
  rintro e w5 ⟨rfl, hk⟩
  have K5 := hid (K4.out.trans hk); clear hk
  go_wp2
  go_ret
  exact ⟨rfl, K5.out⟩
end Go.Proofs.Ytjdalhnffhoknaa
