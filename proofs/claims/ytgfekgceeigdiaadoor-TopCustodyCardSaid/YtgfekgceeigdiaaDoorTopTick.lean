/- Custody: TopHeld, TopCa: walks and plain facts. -/
import Derived.Test.YtgfekgceeigdiaaDoorTopStep
import Derived.Test.YtgfekgceeigdiaaDoorFileOne
import Derived.Test.YtgfekgceeigdiaaDoorFilePl
namespace Go.Proofs.YtgfekgceeigdiaaDoor
open Go.RowKit
attribute [local go_sem ↓] Go.wp_at_zero Go.wp_at_succ
def cntB (l : List Bu) (id : Int) : Int := (l.countP (fun x => x.i == id) : Nat)
theorem cntB_take {l : List Bu} {k : Nat} {x : Bu} {id : Int} (h : l[k]? = some x) : cntB (l.take (k + 1)) id = cntB (l.take k) id + (if x.i == id then 1 else 0) := by
  have e1 : l.take (k + 1) = l.take k ++ [x] := by rw [List.take_add_one, h]; rfl
  unfold cntB
  rw [e1, List.countP_append]
  by_cases hx : (x.i == id) = true
  · rw [if_pos hx]; simp [List.countP_cons, hx]
  · rw [if_neg hx]; simp [List.countP_cons, hx]
theorem cntB_b (l : List Bu) (id : Int) : 0 ≤ cntB l id ∧ cntB l id ≤ l.length := by
  unfold cntB
  have := List.countP_le_length (p := fun x : Bu => x.i == id) (l := l)
  omega
set_option maxRecDepth 100000 in set_option maxHeartbeats 1000000 in
theorem Count_any (l : List Bu) (K : Nat → Prop) (q : Value) (ab : Option Addr) (cb : Nat) (vp vs : Value) (id : Int) (w : World) (hv : Bus K w (.slice ab l.length cb) l) (hl : l.length ≤ 1000) :
    Calls Tryd.prog 37 #[.agg #[q, .slice ab l.length cb, vp, vs], .int .i64 id] w fun e w' => e = .returned (.int .i64 (cntB l id)) ∧ Keeps (fun _ => False) w w' := by
  have HV := hid (hv.mono (K' := fun b => b < w.heap.size) (fun b h _ => h))
  clear hv
  obtain ⟨n, hnn⟩ : ∃ n, l.length = n := ⟨_, rfl⟩
  have HN := hid hnn
  rw [hnn] at HV hl ⊢
  clear hnn
  go_enter Tryd.func37, Tryd.ntmps37
  go_upto_region 1 with fail
  generalize hW : World.alloc w _ = W1
  have KS : Hd (Keeps (fun _ => False) w W1) := hid (by rw [← hW]; exact (Keeps.alloc (Keeps.refl (fun _ => False) w) _))
  have HV' : Hd (Bus (fun b => b < w.heap.size) W1 (.slice ab n cb) l) := hid (HV.out.keep KS.out (fun _ _ _ h => h))
  have BA : Hd (Blk W1 w.heap.size #[q, (.slice ab n cb), vp, vs] 44) := hid (by rw [← hW]; exact (blk_new _ _ _))
  clear HV
  have HV := HV'
  clear HV'
  have HK : Hd (Keeps (fun _ => False) w W1) := hid KS.out
  have z_W1 : w.heap.size + 1 ≤ W1.heap.size := by rw [← hW]; simp
  clear hW KS
  go_wp2_with fail
  go_loopw [5, 6] (fun sv iv wr => ∃ k : Nat, sv = .int .i64 (cntB (l.take k) id) ∧ iv = .int .i64 (k : Int) ∧ k ≤ n ∧ Hd (Keeps (fun _ => False) W1 wr)) (fun _ iv _ => n - (intOf iv).toNat)
  case atStart => exact ⟨0, rfl, rfl, Nat.zero_le _, hid (Keeps.refl _ _)⟩
  case round =>
    obtain ⟨V, rfl⟩ : ∃ V, V = wr := ⟨_, rfl⟩
    obtain ⟨k, rfl, rfl, hk, HKR⟩ := hrel
    have o1 : V.cell? ⟨w.heap.size, 1, none⟩ = some (.slice ab n cb) := keep_cell HKR.out (fun h => h) (blk_cell BA.out 1)
    by_cases hlt : k < n
    · have q1 : (k : Int) < n := by omega
      have q2 : (0 : Int) ≤ k := by omega
      obtain ⟨bx, ox, rfl, -, -, hc⟩ := bus_cells HV.out (by rw [HN.out]; omega)
      have hkl : k < l.length := by rw [HN.out]; exact hlt
      obtain ⟨x, hxk⟩ : ∃ x, l[k]? = some x := ⟨l[k], List.getElem?_eq_getElem hkl⟩
      obtain ⟨e0, -⟩ := hc k x hxk
      have m0 := keep_cell HKR.out (fun h => h) e0
      have HT := hid (cntB_take (id := id) hxk)
      have hub := cntB_b (l.take k) id
      have hlk : (l.take k).length ≤ 1000 := by rw [List.length_take]; omega
      clear e0 hc hxk hkl
      generalize cntB (l.take k) id = u at *
      have hw : IntKind.i64.wrap (u + 1) = u + 1 := IntWalk.i64_in _ (by omega)
      by_cases hx : (x.i == id) = true
      · go_wp2
        go_roundw
        case rel => exact ⟨k + 1, by rw [HT.out, if_pos hx], by go_num, by omega, HKR⟩
        case measure => simp [intOf]; omega
      · have hx' : (x.i == id) = false := by simpa using hx
        go_wp2
        go_roundw
        case rel => exact ⟨k + 1, by rw [HT.out, if_neg hx, Int.add_zero], by go_num, by omega, HKR⟩
        case measure => simp [intOf]; omega
    · have hkn : k = n := by omega
      have q1 : ¬ ((k : Int) < n) := by omega
      have HT : Hd (l.take k = l) := hid (List.take_of_length_le (by rw [HN.out, hkn]; exact Nat.le_refl _))
      rw [HT.out]
      subst hkn
      go_wp2
      go_ret
      exact ⟨rfl, HK.out.trans HKR.out⟩
def inN (r : Rl) (id k : Nat) : Nat := if id ∈ (r.s k).bs then 1 else 0
def sumN (r : Rl) (id : Nat) : Nat → Nat
  | 0 => 0
  | m + 1 => sumN r id m + inN r id m
theorem sumN_le (r : Rl) (id : Nat) : ∀ m, sumN r id m ≤ m
  | 0 => Nat.le_refl _
  | m + 1 => by have := sumN_le r id m; unfold sumN inN; split <;> omega
theorem cnt_node {U : Nat → Bu} {N : Nat} (hU : UOk U N) {id : Nat} : ∀ {l : List Nat}, l.Nodup → cntB (l.map U) id = ((if id ∈ l then 1 else 0 : Nat) : Int)
  | [], _ => rfl
  | x :: l, h => by
    obtain ⟨h1, h2⟩ := List.nodup_cons.1 h
    have ih := cnt_node hU (id := id) h2
    unfold cntB at *
    rw [List.map_cons, List.countP_cons]
    have e : ((U x).i == (id : Int)) = decide (x = id) := by rw [hU.id]; by_cases hx : x = id <;> simp [hx]; omega
    rw [e]
    by_cases hx : x = id
    · subst hx
      rw [if_neg h1] at ih
      rw [if_pos (List.mem_cons_self ..)]
      simp only [decide_true, if_true]
      omega
    · have e2 : (id ∈ x :: l) ↔ id ∈ l := by simp; omega
      simp only [hx, decide_false, e2]
      simpa using ih
theorem held_sum {N : Nat} {r : Rl} (h : TInvR N r) {id : Nat} (hi : id < N) : sumN r id 3 ≠ 0 := by
  have := h.held hi
  show ((0 + inN r id 0) + inN r id 1) + inN r id 2 ≠ 0
  have i0 : inN r id 0 = if id ∈ r.s0.bs then 1 else 0 := rfl
  have i1 : inN r id 1 = if id ∈ r.s1.bs then 1 else 0 := rfl
  have i2 : inN r id 2 = if id ∈ r.s2.bs then 1 else 0 := rfl
  rcases this with g | g | g
  · rw [if_pos g] at i0; omega
  · rw [if_pos g] at i1; omega
  · rw [if_pos g] at i2; omega
theorem RelW.count {U : Nat → Bu} {N : Nat} {fts : List Li.Ft} (hU : UOk U N) {p : Nat} {w : World} {r : Rl} (h : RelW U N fts p w r) (hI : TInvR N r) {k : Nat} (hk : k ≤ 2) (id : Nat) :
    ∃ a1 n1 c1 a2 n2 c2 a3 n3 c3, w.cell? ⟨p, k * 4, none⟩ = some (.int .i64 10000) ∧ w.cell? ⟨p, k * 4 + 1, none⟩ = some (.slice a1 n1 c1) ∧ w.cell? ⟨p, k * 4 + 2, none⟩ = some (.slice a2 n2 c2) ∧ w.cell? ⟨p, k * 4 + 3, none⟩ = some (.slice a3 n3 c3) ∧
      (Calls Tryd.prog 37 #[.agg #[.int .i64 10000, .slice a1 n1 c1, .slice a2 n2 c2, .slice a3 n3 c3], .int .i64 (id : Nat)] w fun e w' => e = .returned (.int .i64 (inN r id k : Nat)) ∧ Keeps (fun _ => False) w w') := by
  obtain ⟨v1, v2, v3, c0, e1, e2, e3, ⟨a1, d1, a2, d2, a3, d3, rfl, rfl, rfl, g1, g2, g3, g4⟩, -⟩ := h.at_ hk
  have hs := rl_ok hI k
  obtain ⟨b1, b2, b3, b4⟩ := stv_bounds hU hs g4
  refine ⟨a1, _, d1, a2, _, d2, a3, _, d3, c0, e1, e2, e3, ?_⟩
  have hc := Count_any ((r.s k).bs.map U) _ (.int .i64 10000) a1 d1 (.slice a2 (ci (r.s k).ps).length d2) (.slice a3 (ci (r.s k).sn).length d3) (id : Nat) w g1 (by omega)
  rw [cnt_node hU hs.nd] at hc
  exact hc
set_option maxRecDepth 100000 in set_option maxHeartbeats 1000000 in
theorem held_any {U : Nat → Bu} {N : Nat} {fts : List Li.Ft} (hU : UOk U N) {p : Nat} {w : World} {r : Rl} (hR : RelW U N fts p w r) (hI : TInvR N r) :
    Calls Tryd.prog 15 #[.pointer (some ⟨p, 0, none⟩), .int .i64 (N : Nat)] w fun e w' => e = .returned (.bool true) ∧ Keeps (fun _ => False) w w' := by
  have HU := hid hU; have HR := hid hR; have HI := hid hI
  have hN8 := hU.n8
  clear hU hR hI
  go_enter Tryd.func15, Tryd.ntmps15
  go_wp2_with fail
  go_loopw [5] (fun iv wr => ∃ k : Nat, iv = .int .i64 (k : Int) ∧ k ≤ N ∧ Hd (Keeps (fun _ => False) w wr)) (fun iv _ => N - (intOf iv).toNat)
  case atStart => exact ⟨0, rfl, Nat.zero_le _, hid (Keeps.refl _ _)⟩
  case round =>
    obtain ⟨V, rfl⟩ : ∃ V, V = wr := ⟨_, rfl⟩
    obtain ⟨id, rfl, hid1, HKV⟩ := hrel
    by_cases hlt : id < N
    · have q1 : (id : Int) < N := by omega
      have q2 : (0 : Int) ≤ id := by omega
      go_wp2_with fail
      go_loopw [6, 7] (fun nv iv wr => ∃ m : Nat, nv = .int .i64 (sumN r id m : Nat) ∧ iv = .int .i64 (m : Int) ∧ m ≤ 3 ∧ Hd (Keeps (fun _ => False) w wr)) (fun _ iv _ => 3 - (intOf iv).toNat)
      case atStart => exact ⟨0, rfl, rfl, Nat.zero_le _, HKV⟩
      case round =>
        obtain ⟨X, rfl⟩ : ∃ V, V = wr := ⟨_, rfl⟩
        obtain ⟨m, rfl, rfl, hm, HKX⟩ := hrel
        have hsl := sumN_le r id m
        by_cases hl3 : m < 3
        · have p1 : (m : Int) < 3 := by omega
          have p2 : (0 : Int) ≤ m := by omega
          obtain ⟨a1, n1, c1, a2, n2, c2, a3, n3, c3, o0, o1, o2, o3, hct⟩ := RelW.count HU.out (HR.out.keep HKX.out) HI.out (k := m) (by omega) id
          have hin : inN r id m ≤ 1 := by unfold inN; split <;> omega
          have HSS : Hd (sumN r id (m + 1) = sumN r id m + inN r id m) := hid rfl
          have HCT := hid hct
          clear hct
          generalize inN r id m = c at *
          generalize sumN r id m = s at *
          have hc1 : ¬ ((1 : Int) < c) := by omega
          have hw : IntKind.i64.wrap ((s : Int) + c) = (s : Int) + c := IntWalk.i64_in _ (by omega)
          go_wp2_with fail
          refine HCT.out.mono ?_
          rintro e X2 ⟨rfl, hk2⟩
          have HK2 := hid (HKX.out.trans hk2)
          clear hk2 HCT o0 o1 o2 o3
          go_wp2
          go_roundw
          case rel => exact ⟨m + 1, by rw [HSS.out]; first | rfl | (push_cast; rfl), by go_num, by omega, HK2⟩
          case measure => simp [intOf]; omega
        · have p1 : ¬ ((m : Int) < 3) := by omega
          obtain rfl : m = 3 := by omega
          have hs0 := held_sum HI.out hlt
          generalize sumN r id 3 = s at *
          have hs1 : ((s : Int) == 0) = false := by simp; omega
          go_wp2
          go_roundw
          case rel => exact ⟨id + 1, by go_num, by omega, HKX⟩
          case measure => simp [intOf]; omega
    · have q1 : ¬ ((id : Int) < N) := by omega
      go_wp2
      go_ret
      exact ⟨rfl, HKV.out⟩
end Go.Proofs.YtgfekgceeigdiaaDoor
namespace Go.Proofs.YtgfekgceeigdiaaDoor
open Go.RowKit
def sgU (R : List Seg) (i : Nat) : Seg := R.getD i ⟨0, 0, 0, 0, []⟩
def segU (R : List Seg) (i : Nat) : Bu := ⟨i, 0, 0, (sgU R i).f, (sgU R i).o, (sgU R i).t, (sgU R i).s, (sgU R i).d⟩
theorem sgU_at {R : List Seg} {i : Nat} {s : Seg} (h : R[i]? = some s) : sgU R i = s := by unfold sgU List.getD; rw [h]; rfl
theorem sgU_mem {R : List Seg} {i : Nat} (h : i < R.length) : sgU R i ∈ R := by
  rw [sgU_at (List.getElem?_eq_getElem h)]; exact List.getElem_mem h
theorem uok_seg {R : List Seg} {x : List Nat} {id : Int} (hid : -1000 ≤ id ∧ id ≤ 1000) (hO : ∀ s ∈ R, OfF id x s) (hx : x.length ≤ 65536) (hb : ∀ c ∈ x, c < 256) (h8 : R.length ≤ 8) : UOk (segU R) R.length where
  id := fun _ => rfl
  zf := fun _ => rfl
  zt := fun _ => rfl
  n8 := h8
  ok := fun i hi => by
    have h := hO _ (sgU_mem hi)
    have h1 := h.f; have h2 := h.o; have h3 := h.t; have h4 := h.e
    refine ⟨?_, ?_, ?_, ?_, ?_, fun c hc => ?_, h.n⟩
    · show -9223372036854775808 ≤ (i : Int) ∧ (i : Int) ≤ 9223372036854775807; omega
    · show -9223372036854775808 ≤ (sgU R i).f ∧ (sgU R i).f ≤ 9223372036854775807; omega
    · show -9223372036854775808 ≤ (sgU R i).o ∧ (sgU R i).o ≤ 9223372036854775807; omega
    · show -9223372036854775808 ≤ (sgU R i).t ∧ (sgU R i).t ≤ 9223372036854775807; omega
    · show (sgU R i).s < 4294967296; rw [h.s]; exact Cr.crc_lt hb
    · have hc' : c ∈ (sgU R i).d := hc
      rw [h.d] at hc'; exact hb c (List.mem_of_mem_drop (List.mem_of_mem_take hc'))
theorem pieceL_few {id : Int} {b : List Nat} {u z : Int} (hz : 1 ≤ z) : ∀ {n : Nat} {a : Int}, 1 ≤ (pieceL id b u z n a).length → (((pieceL id b u z n a).length : Int) - 1) * z < u - a
  | 0, a, h => by simp [pieceL] at h
  | n + 1, a, h => by
    unfold pieceL at h ⊢
    split
    · rename_i ha
      rw [List.length_cons]
      rcases Nat.eq_zero_or_pos (pieceL id b u z n (a + z)).length with h0 | h0
      · rw [h0]; simp; omega
      · have ih := pieceL_few (id := id) (b := b) (u := u) hz (n := n) (a := a + z) h0
        have e : (((pieceL id b u z n (a + z)).length + 1 : Nat) : Int) - 1 = (((pieceL id b u z n (a + z)).length : Int) - 1) + 1 := by omega
        rw [e, Int.add_mul, Int.one_mul]; omega
    · rename_i ha; rw [if_neg ha] at h; simp at h
theorem cut_few {id : Int} {b : List Nat} {z : Int} (hz : 1 ≤ z) (h : 1 ≤ (cutL id b z).length) (hb : b ≠ []) : (((cutL id b z).length : Int) - 1) * z < b.length := by
  have e : fitsL b z = 0 → cutL id b z = gapR id b z (0, b.length) := fun g => by
    unfold cutL answerL
    rw [g]
    simp [hb]
  by_cases g : fitsL b z = 0
  · rw [e g] at h ⊢
    unfold gapR rangeS at h ⊢
    have := pieceL_few (id := id) (b := b) (u := min ((0, (b.length : Int)) : Int × Int).2 b.length) hz (n := (min ((0, (b.length : Int)) : Int × Int).2 (b.length : Int) - max ((0, (b.length : Int)) : Int × Int).1 0).toNat) (a := max ((0, (b.length : Int)) : Int × Int).1 0) h
    have e1 : min ((0, (b.length : Int)) : Int × Int).2 (b.length : Int) = b.length := by show min (b.length : Int) b.length = _; omega
    have e2 : max ((0, (b.length : Int)) : Int × Int).1 0 = 0 := by show max (0 : Int) 0 = 0; omega
    rw [e1, e2] at this ⊢
    omega
  · unfold cutL at h; rw [if_pos g] at h; simp at h
theorem cut_small {b : List Nat} {z : Int} (h : (50 ≤ z ∧ z ≤ 255 ∧ b.length ≤ 400) ∨ (z = 2 ∧ b.length = 7)) (hb : b ≠ []) : (cutL 4 b z).length ≤ 8 := by
  rcases Nat.eq_zero_or_pos (cutL 4 b z).length with h0 | h0
  · omega
  · have h1 := cut_few (id := 4) (b := b) (z := z) (by omega) h0 hb
    generalize (cutL 4 b z).length = l at *
    rcases h with ⟨h2, h3, h4⟩ | ⟨h2, h3⟩
    · rcases Nat.lt_or_ge 8 l with h5 | h5
      · exfalso
        have : (8 : Int) * 50 ≤ ((l : Int) - 1) * z := by
          have q1 : (8 : Int) * 50 ≤ 8 * z := by omega
          have q2 : (8 : Int) * z ≤ ((l : Int) - 1) * z := Int.mul_le_mul_of_nonneg_right (by omega) (by omega)
          omega
        omega
      · exact h5
    · subst h2; omega
theorem insS_last {x : Nat} : ∀ {l : List Nat}, (∀ y ∈ l, y < x) → insS l x = l ++ [x]
  | [], _ => rfl
  | y :: l, h => by
    have h1 := h y (List.mem_cons_self ..)
    unfold insS
    rw [if_neg (by omega), if_neg (by omega), insS_last (fun z hz => h z (List.mem_cons_of_mem _ hz))]; rfl
/-- k bundles made -/
def startR (k : Nat) : Rl := ⟨⟨List.range k, [], List.range k⟩, ⟨[], [], []⟩, ⟨[], [], []⟩, [], 0⟩
theorem range_srt (k : Nat) : (List.range k).Pairwise (· < ·) := List.pairwise_lt_range
theorem startR_ok {k N : Nat} (h : k ≤ N) : (startR k).s0.ok N := ⟨List.nodup_range, fun _ h => h, (fun i hi => by have := List.mem_range.1 hi; omega), range_srt k, List.Pairwise.nil⟩
theorem empty_ok (N : Nat) : (⟨[], [], []⟩ : Sto).ok N := ⟨List.nodup_nil, fun _ h => h, (fun i hi => by cases hi), List.Pairwise.nil, List.Pairwise.nil⟩
theorem startR_inv (N : Nat) : TInvR N (startR N) := ⟨startR_ok (Nat.le_refl _), empty_ok N, empty_ok N, fun i hi => .inl (List.mem_range.2 hi), (fun i hi => by cases hi), (fun i hi => by cases hi), (fun f hf => by cases hf)⟩
theorem startR_ph (N : Nat) (ks : List Nat) : PH N ks 0 (startR N) := by
  refine .inr ⟨fun _ => ?_, fun h => by simp at h, fun h => by simp at h, fun h => by simp at h⟩
  have e : mR N ks (startR N) = (N : Int) - (List.range N).length + 0 - 0 + (struck ks 0 : Nat) := rfl
  rw [e, List.length_range]
  have : ((0 / 7 : Nat) : Int) = 0 := rfl
  omega
theorem create_at {U : Nat → Bu} {N : Nat} {fts : List Li.Ft} (hU : UOk U N) {p : Nat} {w : World} {k : Nat} (h : RelW U N fts p w (startR k)) (hk : k < N) :
    ∃ a1 n1 c1 a2 n2 c2 a3 n3 c3, w.cell? ⟨p, 0, none⟩ = some (.int .i64 10000) ∧ w.cell? ⟨p, 1, none⟩ = some (.slice a1 n1 c1) ∧ w.cell? ⟨p, 2, none⟩ = some (.slice a2 n2 c2) ∧ w.cell? ⟨p, 3, none⟩ = some (.slice a3 n3 c3) ∧
      (∀ X ad cd, Keeps (fun _ => False) w X → Sl (fun _ => True) X (.slice ad (U k).d.length cd) (u8s (U k).d) →
        Calls Tryd.prog 13 #[.agg #[.int .i64 10000, .slice a1 n1 c1, .slice a2 n2 c2, .slice a3 n3 c3], .agg #[.int .i64 (k : Int), .int .i64 0, .int .i64 0, .int .i64 (U k).g, .int .i64 (U k).o, .int .i64 (U k).a, .int .u32 ((U k).s : Int), .slice ad (U k).d.length cd]] X fun e w' =>
          ∃ b1 m1 d1 b2 m2 d2 b3 m3 d3, e = .returned (.tuple #[.agg #[.int .i64 10000, .slice b1 m1 d1, .slice b2 m2 d2, .slice b3 m3 d3], .int .i64 0]) ∧ Keeps (fun _ => False) X w' ∧
            StK U N (fun b => X.heap.size ≤ b) w' ⟨List.range (k + 1), [], List.range (k + 1)⟩ (.slice b1 m1 d1) (.slice b2 m2 d2) (.slice b3 m3 d3)) ∧
      (∀ (W : World) (u1 u2 u3 : Value), Keeps (fun _ => False) w W → StV U N p W ⟨List.range (k + 1), [], List.range (k + 1)⟩ u1 u2 u3 → RelW U N fts p (set4 W p 0 u1 u2 u3) (startR (k + 1))) := by
  obtain ⟨v1, v2, v3, c0, e1, e2, e3, ⟨a1, d1, a2, d2, a3, d3, rfl, rfl, rfl, g1, g2, g3, g4⟩, hset⟩ := h.at_ (k := 0) (by omega)
  have hs : ((startR k).s 0).ok N := startR_ok (by omega)
  obtain ⟨b1, b2, b3, b4⟩ := stv_bounds hU hs g4
  have hx := hU.ok k hk
  have hus := used_small b4
  have hnin : k ∉ List.range k := fun h => by have := List.mem_range.1 h; omega
  refine ⟨a1, _, d1, a2, _, d2, a3, _, d3, c0, e1, e2, e3, fun X ad cd hX hsl => ?_, fun W u1 u2 u3 hW hst => hset W ⟨List.range (k + 1), [], List.range (k + 1)⟩ u1 u2 u3 hW hst⟩
  have tr : ∀ b, b < X.heap.size → b ≠ p → True := fun _ _ _ => trivial
  have hc := Create_ok (fun _ => True) 10000 _ _ _ (U k) a1 a2 a3 ad d1 d2 d3 cd X ((g1.keep hX (fun _ _ _ h => h)).mono tr) ((g2.keep hX (fun _ _ _ h => h)).mono tr) ((g3.keep hX (fun _ _ _ h => h)).mono tr) hsl (by omega) (by omega) (by omega) b4 hx.n (ci_srt hs.srt) (by rw [hU.id, ci_mem]; exact hnin) (by have := hx.n; omega) (by omega)
  rw [hU.id, hU.zf, hU.zt] at hc
  have q2 : insI (ci ((startR k).s 0).sn) (k : Int) = ci (List.range (k + 1)) := by
    rw [ci_ins hs.srt hnin]
    show ci (insS (List.range k) k) = _
    rw [insS_last (fun y hy => List.mem_range.1 hy), List.range_succ]
  have q1 : ((startR k).s 0).bs.map U ++ [U k] = (List.range (k + 1)).map U := by
    show (List.range k).map U ++ [U k] = _
    rw [List.range_succ, List.map_append]; rfl
  have l1 : (((startR k).s 0).bs.map U).length + 1 = ((List.range (k + 1)).map U).length := by
    show ((List.range k).map U).length + 1 = _
    simp
  have l2 : (ci ((startR k).s 0).sn).length + 1 = (ci (List.range (k + 1))).length := by
    show (ci (List.range k)).length + 1 = _
    simp [ci]
  rw [q1, q2, l1, l2] at hc
  refine hc.mono ?_
  rintro e w' ⟨x1, y1, x2, y2, x3, y3, rfl, w1, w2, w3, hk2⟩
  exact ⟨_, _, _, _, _, _, _, _, _, rfl, hk2, w1, w2, w3, ⟨_, _, rfl⟩, ⟨_, _, rfl⟩, ⟨_, _, rfl⟩, fun _ h => by cases h⟩
/-- ahead of a tick -/
def TickSt (U : Nat → Bu) (N : Nat) (fts : List Li.Ft) (T p : Nat) (w : World) : Prop := ∃ r, RelW U N fts p w r ∧ TInvR N r ∧ PH N (ksOf fts) T r ∧ pot r.fl + r.cn ≤ 18 * T
theorem TickSt.start {U : Nat → Bu} {N : Nat} {fts : List Li.Ft} {p : Nat} {w : World} (h : RelW U N fts p w (startR N)) : TickSt U N fts 0 p w :=
  ⟨_, h, startR_inv N, startR_ph N _, Nat.le_refl _⟩
theorem TickSt.step {U : Nat → Bu} {N : Nat} {fts : List Li.Ft} (hU : UOk U N) (hF : FtsOk fts) {T p : Nat} {w : World} (h : TickSt U N fts T p w) (hT : T < 400) :
    Calls Tryd.prog 14 #[.pointer (some ⟨p, 0, none⟩), .int .i64 (T : Nat)] w fun e w' => e = .returned (.bool true) ∧ TickSt U N fts (T + 1) p w' ∧ Keeps (fun b => b = p) w w' := by
  obtain ⟨r, h1, h2, h3, h4⟩ := h
  refine (step_any hU hF h1 h2 T (18 * T) (by omega) h4 (by omega)).mono ?_
  rintro e w' ⟨rfl, r', k1, k2, k3, k4⟩
  obtain ⟨i1, i2⟩ := tick_all h2 h3 k1
  exact ⟨rfl, ⟨r', k2, i1, i2, by omega⟩, k4⟩
theorem TickSt.held {U : Nat → Bu} {N : Nat} {fts : List Li.Ft} (hU : UOk U N) {T p : Nat} {w : World} (h : TickSt U N fts T p w) :
    Calls Tryd.prog 15 #[.pointer (some ⟨p, 0, none⟩), .int .i64 (N : Nat)] w fun e w' => e = .returned (.bool true) ∧ TickSt U N fts T p w' ∧ Keeps (fun b => b = p) w w' := by
  obtain ⟨r, h1, h2, h3, h4⟩ := h
  refine (held_any hU h1 h2).mono ?_
  rintro e w' ⟨rfl, hk⟩
  exact ⟨rfl, ⟨r, h1.keep hk, h2, h3, h4⟩, keep_any hk⟩
/-- behind the last tick -/
theorem TickSt.done {U : Nat → Bu} {N : Nat} {fts : List Li.Ft} (hU : UOk U N) (hF : FtsOk fts) {p : Nat} {w : World} (h : TickSt U N fts 400 p w) :
    ∃ (l : List Nat) (a0 : Option Addr) (c0 : Nat) (a1 : Option Addr) (c1 : Nat) (a2 : Option Addr) (c2 : Nat), l.length = N ∧ (∀ i, i < N → i ∈ l) ∧ (∀ i ∈ l, i < N) ∧ Cr.Nib w ∧
      w.cell? ⟨p, 1, none⟩ = some (.slice a0 0 c0) ∧ w.cell? ⟨p, 5, none⟩ = some (.slice a1 0 c1) ∧ w.cell? ⟨p, 9, none⟩ = some (.slice a2 N c2) ∧ Bus (fun b => b ≠ p) w (.slice a2 N c2) (l.map U) := by
  obtain ⟨r, h1, h2, h3, h4⟩ := h
  obtain ⟨e0, e1, e2, e3⟩ := ticks_end h2 h3 hU.n8 (by unfold ksOf; rw [List.length_map]; exact hF.len)
  obtain ⟨v1, v2, v3, -, q1, -, -, ⟨a1, d1, a2, d2, a3, d3, rfl, rfl, rfl, -⟩, -⟩ := h1.at_ (k := 0) (by omega)
  obtain ⟨v4, v5, v6, -, q2, -, -, ⟨a4, d4, a5, d5, a6, d6, rfl, rfl, rfl, -⟩, -⟩ := h1.at_ (k := 1) (by omega)
  obtain ⟨v7, v8, v9, -, q3, -, -, ⟨a7, d7, a8, d8, a9, d9, rfl, rfl, rfl, g1, -⟩, -⟩ := h1.at_ (k := 2) (by omega)
  have z0 : (r.s 0).bs = [] := e0
  have z1 : (r.s 1).bs = [] := e1
  have z2 : (r.s 2).bs = r.s2.bs := rfl
  rw [z0] at q1
  rw [z1] at q2
  rw [z2, List.length_map, e2] at q3 g1
  exact ⟨r.s2.bs, a1, d1, a4, d4, a7, d7, e2, e3, fun i hi => h2.k2.lt i (h2.k2.sub i hi), h1.nib, q1, q2, q3, g1⟩
/-- the file comes back -/
theorem end_plain {x : List Nat} {z : Int} (hz : 1 ≤ z ∧ z ≤ 256) (hx : x.length ≤ 65536) (hb : ∀ c ∈ x, c < 256) {l : List Nat} (hall : ∀ i, i < (cutL 4 x z).length → i ∈ l) (hlt : ∀ i ∈ l, i < (cutL 4 x z).length) (hne : x ≠ []) :
    bytesM ((l.map (sgU (cutL 4 x z))).foldl putM (newM 4)) = (x, 0) ∧ ((l.map (sgU (cutL 4 x z))).foldl putM (newM 4)).ok := by
  have hO : ∀ s ∈ l.map (sgU (cutL 4 x z)), OfF 4 x s := fun s hs => by
    obtain ⟨i, hi, rfl⟩ := List.mem_map.1 hs
    exact cut_of _ (sgU_mem (hlt i hi))
  obtain ⟨f1, f2, f3⟩ := puts_of hx hb _ (newM 4) (newM_fit 4 x) hO
  have cov : ∀ i, i < x.length → ∃ s ∈ l.map (sgU (cutL 4 x z)), inS s i = true := fun i hi => by
    obtain ⟨s, hs, h⟩ := cut_cov (id := 4) hz hx hi
    obtain ⟨j, hj, e⟩ := List.getElem_of_mem hs
    refine ⟨s, List.mem_map.2 ⟨j, hall j hj, ?_⟩, h⟩
    exact sgU_at (by rw [List.getElem?_eq_getElem hj, e])
  have hl : l.map (sgU (cutL 4 x z)) ≠ [] := fun e => by
    obtain ⟨s, hs, _⟩ := cov 0 (List.length_pos_iff.2 hne)
    rw [e] at hs; cases hs
  exact ⟨(fit_done f1 (f2 hl) (fun i hi => by rw [f3 i]; obtain ⟨s, hs, h⟩ := cov i hi; rw [List.any_eq_true.2 ⟨s, hs, h⟩, Bool.or_true])).2, f1.ok⟩
end Go.Proofs.YtgfekgceeigdiaaDoor
