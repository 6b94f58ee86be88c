/- File: numbers and bytes of the reference, Same, SameGaps, valid. -/
import Derived.Test.YtgeicbjlichdgaaDoorFileE
import Derived.StillTailTactics
namespace Go.Proofs.YtgeicbjlichdgaaDoor
open Go.RowKit
attribute [local go_sem ↓] Go.wp_at_zero Go.wp_at_succ
def around (n most : Int) : Int := (if n < 0 then -(n + 1) else n) % most
theorem around_b (n : Int) {most : Int} (h : 1 ≤ most) : 0 ≤ around n most ∧ around n most < most := by
  unfold around; exact ⟨Int.emod_nonneg _ (by omega), Int.emod_lt_of_pos _ (by omega)⟩
set_option maxRecDepth 100000 in set_option maxHeartbeats 400000 in
theorem Around_any (n m : Int) (w : World) (h0 : -9223372036854775808 ≤ n) (h1 : n ≤ 9223372036854775807) (h2 : 1 ≤ m) (h3 : m ≤ 1000000000000000) : Calls Tryd.prog 15 #[.int .i64 n, .int .i64 m] w fun e w' => e = .returned (.int .i64 (around n m)) ∧ w = w' := by
  have hne : (m == 0) = false := by simp; omega
  have H0 := hid h0; have H1 := hid h1
  by_cases hn : n < 0
  · have HE : Hd (-((n + 1).tmod m) = around n m) := hid (by unfold around; rw [if_pos hn, ← Int.neg_tmod, Int.tmod_eq_emod_of_nonneg (by omega)])
    go_enter Tryd.func15, Tryd.ntmps15
    go_wp2
    go_ret
    exact ⟨ret_int HE.out, rfl⟩
  · have HE : Hd (n % m = around n m) := hid (by unfold around; rw [if_neg hn])
    go_enter Tryd.func15, Tryd.ntmps15
    go_wp2
    go_ret
    exact ⟨ret_int HE.out, rfl⟩
set_option maxRecDepth 100000 in set_option maxHeartbeats 400000 in
theorem SameBytes_any (K1 K2 : Nat → Prop) (v1 v2 : Value) (xs ys : List Nat) (w : World) (h1 : Sl K1 w v1 (u8s xs)) (h2 : Sl K2 w v2 (u8s ys)) (hx : ∀ c ∈ xs, c < 256) (hy : ∀ c ∈ ys, c < 256) :
    Calls Tryd.prog 26 #[v1, v2] w fun e w' => e = .returned (.bool (decide (xs = ys))) ∧ w = w' := by
  have e1 := Cr.conv_sl h1 hx; have e2 := Cr.conv_sl h2 hy
  have HQ : Hd (((Cr.str xs).toList == (Cr.str ys).toList) = decide (xs = ys)) := hid (by
    rw [Bool.eq_iff_iff, beq_iff_eq, decide_eq_true_iff]
    exact ⟨fun h => Cr.str_inj hx hy (Cr.ba_inj h), fun h => by rw [h]⟩)
  generalize Cr.str xs = s at *
  generalize Cr.str ys = t at *
  clear h1 h2 hx hy
  go_enter Tryd.func26, Tryd.ntmps26
  go_wp2
  go_ret
  exact ⟨ret_bool HQ.out, rfl⟩
set_option maxRecDepth 100000 in set_option maxHeartbeats 1000000 in
theorem most_any (K : Nat → Prop) (v : Value) (b : List Nat) (w : World) (hv : Sl K w v (u8s b)) :
    Calls Tryd.prog 13 #[v] w fun e w' => ∃ a c, e = .returned (.slice a (b.take 700).length c) ∧ Sl K w (.slice a (b.take 700).length c) (u8s (b.take 700)) ∧ w = w' := by
  obtain ⟨i8, hi8, hy0, hy1, hy2⟩ := info_u8
  obtain ⟨av, cv, rfl, q1, q2, _⟩ := hv.bytes
  have hrow : Row K w 1 (.slice av b.length cv) b.length (u8s b) := sl_row hv (by simp)
  unfold maxLen at q2
  clear hv
  have hl : (b.take 700).length = min 700 b.length := by rw [List.length_take]
  rcases Nat.lt_or_ge 700 b.length with h | h
  · obtain ⟨a2, c2, hcut, hr2⟩ := run_cut_to (P := Tryd.prog) (t := 22) Tryd.underlying22 hi8 hy1 hrow (hh := 700) 700 rfl (by omega)
    have HR : Hd (Sl K w (.slice a2 700 c2) (u8s (b.take 700))) := hid (by
      have e : u8s (b.take 700) = (u8s b).take (700 * 1) := by simp [u8s, List.map_take]
      rw [e]; exact row_sl hr2 (by rw [List.length_take, u8s_length]; omega))
    have hl2 : (b.take 700).length = 700 := by omega
    rw [hl2]
    have h1 : (700 : Int) < b.length := by omega
    generalize b.length = n at *
    clear hr2 hrow hl hl2
    go_enter Tryd.func13, Tryd.ntmps13
    go_wp2
    go_ret
    exact ⟨a2, c2, rfl, HR.out, rfl⟩
  · obtain ⟨a2, c2, hcut, hr2⟩ := run_cut_to (P := Tryd.prog) (t := 22) Tryd.underlying22 hi8 hy1 hrow (hh := (b.length : Int)) b.length rfl (Nat.le_refl _)
    have HR : Hd (Sl K w (.slice a2 b.length c2) (u8s (b.take 700))) := hid (by
      have e : u8s (b.take 700) = (u8s b).take (b.length * 1) := by rw [List.take_of_length_le (by omega), List.take_of_length_le (by rw [u8s_length]; omega)]
      rw [e]; exact row_sl hr2 (by rw [List.length_take, u8s_length]; omega))
    have hl2 : (b.take 700).length = b.length := by omega
    rw [hl2]
    rcases Nat.lt_or_ge b.length 700 with h' | h'
    · have h1 : (b.length : Int) < 700 := by omega
      generalize b.length = n at *
      clear hr2 hrow hl hl2
      go_enter Tryd.func13, Tryd.ntmps13
      go_wp2
      go_ret
      exact ⟨a2, c2, rfl, HR.out, rfl⟩
    · have h1 : b.length = 700 := by omega
      have HR2 : Hd (Sl K w (.slice av b.length cv) (u8s (b.take 700))) := hid (by
        rw [List.take_of_length_le (by omega)]; exact row_sl hrow (by rw [u8s_length]))
      generalize b.length = n at *
      subst h1
      clear hr2 hrow hl hl2 h h'
      go_enter Tryd.func13, Tryd.ntmps13
      go_wp2
      go_ret
      exact ⟨av, cv, rfl, HR2.out, rfl⟩
set_option maxRecDepth 100000 in set_option maxHeartbeats 1000000 in
theorem size_any (n : Int) (w : World) (h0 : -9223372036854775808 ≤ n) (h1 : n ≤ 9223372036854775807) :
    Calls Tryd.prog 20 #[.int .i64 n] w fun e w' => e = .returned (.int .i64 (1 + around n 256)) ∧ w = w' := by
  have H0 := hid h0; have H1 := hid h1
  obtain ⟨b0, b1⟩ := around_b n (show (1 : Int) ≤ 256 by omega)
  go_enter Tryd.func20, Tryd.ntmps20
  go_wp2_with fail
  refine (Around_any n 256 _ H0.out H1.out (by omega) (by omega)).mono ?_
  rintro e wx ⟨rfl, rfl⟩
  obtain ⟨d, hd⟩ : ∃ d, around n 256 = d := ⟨_, rfl⟩
  rw [hd] at b0 b1 ⊢
  have HD := hid hd
  have u1 : IntKind.i64.wrap (1 + d) = 1 + d := IntWalk.i64_in _ (by omega)
  clear hd
  go_wp2
  go_ret
  exact ⟨by rw [HD.out]; rfl, rfl⟩
/-- a segment's cells -/
theorem sgs_cells {K : Nat → Prop} {w : World} {a : Option Addr} {n c : Nat} {l : List Seg} (h : Sgs K w (.slice a n c) l) (hl : 0 < l.length) :
    ∃ b o, a = some ⟨b, o, none⟩ ∧ K b ∧ b < w.heap.size ∧ ∀ k x, l[k]? = some x → w.cell? ⟨b, o + k * 5, none⟩ = some (.int .i64 x.f) ∧ w.cell? ⟨b, o + k * 5 + 1, none⟩ = some (.int .i64 x.o) ∧ w.cell? ⟨b, o + k * 5 + 2, none⟩ = some (.int .i64 x.t) ∧ w.cell? ⟨b, o + k * 5 + 3, none⟩ = some (.int .u32 (x.s : Int)) ∧
      ∃ ad cd, w.cell? ⟨b, o + k * 5 + 4, none⟩ = some (.slice ad x.d.length cd) ∧ Sl K w (.slice ad x.d.length cd) (u8s x.d) := by
  obtain ⟨xs, hrow, hc⟩ := h
  obtain ⟨a', c', e, _, _, hel⟩ := hrow.form
  injection e with e1 e2 e3
  subst e1
  obtain ⟨b, o, ea, hK, hb, hcell⟩ := hel hl
  refine ⟨b, o, ea, hK, hb, fun k x hx => ?_⟩
  have hk : k < l.length := (List.getElem?_eq_some_iff.1 hx).1
  obtain ⟨t0, t1, t2, t3, t4⟩ := hc.2 k x hx
  have key : ∀ j, j < 5 → w.cell? ⟨b, o + k * 5 + j, none⟩ = some (xs.getD (k * 5 + j) undef) := fun j hj => by rw [Nat.add_assoc]; exact hcell (k * 5 + j) (by omega)
  obtain ⟨ad, cd, e4, _⟩ := t4.bytes
  have e4' : xs.getD (k * 5 + 4) undef = .slice ad x.d.length cd := e4
  have h4 : Sl K w (.slice ad x.d.length cd) (u8s x.d) := by have h := t4; simp only [e4'] at h; exact h
  exact ⟨(key 0 (by omega)).trans (congrArg some t0), (key 1 (by omega)).trans (congrArg some t1), (key 2 (by omega)).trans (congrArg some t2), (key 3 (by omega)).trans (congrArg some t3), ad, cd, (key 4 (by omega)).trans (congrArg some e4'), h4⟩
set_option maxRecDepth 100000 in set_option maxHeartbeats 1000000 in
theorem Same_any (K1 K2 : Nat → Prop) (v1 v2 : Value) (l : List Seg) (w : World) (h1 : Sgs K1 w v1 l) (h2 : Sgs K2 w v2 l) (hb : ∀ x ∈ l, ∀ c ∈ x.d, c < 256) :
    Calls Tryd.prog 16 #[v1, v2] w fun e w' => e = .returned (.bool true) ∧ Keeps (fun _ => False) w w' := by
  obtain ⟨a1, c1, rfl, q1, q2⟩ := h1.form
  obtain ⟨a2, c2, rfl, -⟩ := h2.form
  unfold maxLen at q2
  have H1 := hid h1; have H2 := hid h2; have HB := hid hb
  clear h1 h2 hb
  generalize hln : l.length = m at *
  have HLN := hid hln; clear hln
  have n1 : ((m : Int) != m) = false := by simp
  go_enter Tryd.func16, Tryd.ntmps16
  go_wp2_with fail
  go_loopw [5] (fun i wr => ∃ k : Nat, i = .int .i64 k ∧ k ≤ m ∧ Hd (Keeps (fun _ => False) w wr)) (fun i _ => m - (intOf i).toNat)
  case atStart => exact ⟨0, rfl, Nat.zero_le _, hid (Keeps.refl _ _)⟩
  case round =>
    obtain ⟨k, rfl, hk, KR⟩ := hrel
    have k2 : (0 : Int) ≤ k := by omega
    by_cases hkm : k < m
    · have k1 : (k : Int) < m := by omega
      obtain ⟨x, hx⟩ : ∃ x, l[k]? = some x := ⟨l[k]'(by rw [HLN.out]; exact hkm), List.getElem?_eq_getElem _⟩
      obtain ⟨b1, o1, ea, hb1, hb2, hcc⟩ := sgs_cells H1.out (by rw [HLN.out]; omega)
      obtain ⟨b2, o2, eb, hb3, hb4, hcd⟩ := sgs_cells H2.out (by rw [HLN.out]; omega)
      subst ea eb
      obtain ⟨s0, s1, s2, s3, ad1, cd1, s4, S1⟩ := hcc k x hx
      obtain ⟨t0, t1, t2, t3, ad2, cd2, t4, S2⟩ := hcd k x hx
      have HXB := hid (HB.out x (List.mem_of_getElem? hx))
      have g0 := keep_cell KR.out (fun h => h) s0; have g1 := keep_cell KR.out (fun h => h) s1; have g2 := keep_cell KR.out (fun h => h) s2; have g3 := keep_cell KR.out (fun h => h) s3; have g4 := keep_cell KR.out (fun h => h) s4
      have f0 := keep_cell KR.out (fun h => h) t0; have f1 := keep_cell KR.out (fun h => h) t1; have f2 := keep_cell KR.out (fun h => h) t2; have f3 := keep_cell KR.out (fun h => h) t3; have f4 := keep_cell KR.out (fun h => h) t4
      have HS1 := hid S1; have HS2 := hid S2
      have f0' : ∀ o, (wr.alloc o).cell? ⟨b2, o2 + k * 5, none⟩ = some (.int .i64 x.f) := fun o => keep_cell (keeps_alloc (fun _ => False) wr o) (fun h => h) f0
      have f1' : ∀ o, (wr.alloc o).cell? ⟨b2, o2 + k * 5 + 1, none⟩ = some (.int .i64 x.o) := fun o => keep_cell (keeps_alloc (fun _ => False) wr o) (fun h => h) f1
      have f2' : ∀ o, (wr.alloc o).cell? ⟨b2, o2 + k * 5 + 2, none⟩ = some (.int .i64 x.t) := fun o => keep_cell (keeps_alloc (fun _ => False) wr o) (fun h => h) f2
      have f3' : ∀ o, (wr.alloc o).cell? ⟨b2, o2 + k * 5 + 3, none⟩ = some (.int .u32 (x.s : Int)) := fun o => keep_cell (keeps_alloc (fun _ => False) wr o) (fun h => h) f3
      have f4' : ∀ o, (wr.alloc o).cell? ⟨b2, o2 + k * 5 + 4, none⟩ = some (.slice ad2 x.d.length cd2) := fun o => keep_cell (keeps_alloc (fun _ => False) wr o) (fun h => h) f4
      clear hcc hcd s0 s1 s2 s3 s4 t0 t1 t2 t3 t4 S1 S2 f0 f1 f2 f3 f4 hx
      go_upto_region 8 with fail
      generalize hW : World.alloc (World.alloc wr _) _ = W1
      have BX : Hd (Blk W1 wr.heap.size #[.int .i64 x.f, .int .i64 x.o, .int .i64 x.t, .int .u32 (x.s : Int), .slice ad1 x.d.length cd1] 44) := hid (by rw [← hW]; exact blk_alloc (blk_new _ _ _) _)
      have BY : Hd (Blk W1 (wr.heap.size + 1) #[.int .i64 x.f, .int .i64 x.o, .int .i64 x.t, .int .u32 (x.s : Int), .slice ad2 x.d.length cd2] 44) := hid (by rw [← hW]; exact blk_new' _ _ _ _ (by simp))
      have KW : Hd (Keeps (fun _ => False) wr W1) := hid (by rw [← hW]; exact (keeps_alloc _ _ _).alloc _)
      clear hW g0 g1 g2 g3 g4 f0' f1' f2' f3' f4'
      have p0 : W1.cell? ⟨wr.heap.size, 0, none⟩ = some (.int .i64 x.f) := blk_cell BX.out 0
      have p1 : W1.cell? ⟨wr.heap.size, 1, none⟩ = some (.int .i64 x.o) := blk_cell BX.out 1
      have p2 : W1.cell? ⟨wr.heap.size, 2, none⟩ = some (.int .i64 x.t) := blk_cell BX.out 2
      have p3 : W1.cell? ⟨wr.heap.size, 3, none⟩ = some (.int .u32 (x.s : Int)) := blk_cell BX.out 3
      have p4 : W1.cell? ⟨wr.heap.size, 4, none⟩ = some (.slice ad1 x.d.length cd1) := blk_cell BX.out 4
      have r0 : W1.cell? ⟨wr.heap.size + 1, 0, none⟩ = some (.int .i64 x.f) := blk_cell BY.out 0
      have r1 : W1.cell? ⟨wr.heap.size + 1, 1, none⟩ = some (.int .i64 x.o) := blk_cell BY.out 1
      have r2 : W1.cell? ⟨wr.heap.size + 1, 2, none⟩ = some (.int .i64 x.t) := blk_cell BY.out 2
      have r3 : W1.cell? ⟨wr.heap.size + 1, 3, none⟩ = some (.int .u32 (x.s : Int)) := blk_cell BY.out 3
      have r4 : W1.cell? ⟨wr.heap.size + 1, 4, none⟩ = some (.slice ad2 x.d.length cd2) := blk_cell BY.out 4
      have m0 : (x.f != x.f) = false := by simp
      have m1 : (x.o != x.o) = false := by simp
      have m2 : (x.t != x.t) = false := by simp
      have m3 : ((x.s : Int) != x.s) = false := by simp
      have KW1 := hid (KR.out.trans KW.out)
      go_wp2_with fail
      refine (SameBytes_any _ _ _ _ x.d x.d _ (HS1.out.keep KW1.out (fun _ _ _ h => h)) (HS2.out.keep KW1.out (fun _ _ _ h => h)) HXB.out HXB.out).mono ?_
      rw [decide_eq_true (rfl : x.d = x.d)]
      rintro e wx ⟨rfl, rfl⟩
      go_wp2
      go_roundw
      case rel => exact ⟨k + 1, by go_num, by omega, KW1⟩
      case measure => simp [intOf]; omega
    · obtain rfl : k = m := by omega
      have k0 : ¬ ((k : Int) < k) := by omega
      go_wp2
      go_ret
      exact ⟨rfl, KR.out⟩
end Go.Proofs.YtgeicbjlichdgaaDoor
