/- Combine. -/
import Derived.Test.YtegdlgnofbjjcaaDoorCrcI
namespace Go.Proofs.YtegdlgnofbjjcaaDoor
open Go.RowKit
attribute [local go_sem ↓] Go.wp_at_zero Go.wp_at_succ
/-- an array that lies in a block, and may be written -/
def Arr (w : World) (p : Nat) (l : List Value) : Prop := w.rangeAt p 0 l ∧ w.there p 0 l.length
theorem arr_keep {S : Nat → Prop} {w w' : World} {p : Nat} {l : List Value} (h : Arr w p l) (hk : Keeps S w w') (hs : ¬ S p) : Arr w' p l :=
  ⟨fun j v hv => keep_cell hk hs (h.1 j v hv), fun j hj => by
    obtain ⟨h1, h2⟩ := h.2 j hj
    obtain ⟨v, hv⟩ := Option.isSome_iff_exists.1 h1
    exact ⟨by rw [keep_cell hk hs hv]; rfl, keep_free hk hs hv h2⟩⟩
theorem arr_store {w : World} {p : Nat} {l : List Value} (h : Arr w p l) (l2 : List Value) (hl : l2.length = l.length) : Arr (w.setCells p 0 l2) p l2 :=
  ⟨World.rangeAt_setCells_same w p 0 l2 (by rw [hl]; exact h.2), by
    have := h.2; rw [← hl] at this
    exact World.there_setCells this p 0 l2⟩
theorem arr_blk {w : World} {p : Nat} {cs : Array Value} {T : TypeId} (h : Blk w p cs T) : Arr w p cs.toList := ⟨blk_range h, by have := blk_there h; rw [Array.length_toList]; exact this⟩
theorem mat_len (n : Nat) : (matV n).toList.length = 32 := by rw [Array.length_toList, mat_size]
theorem mat_info (n : Nat) : (Tryd.prog.info? 57).map (·.size) = some (matV n).toList.length := by rw [mat_len]; kernel_rfl
theorem mat_info' (n : Nat) : (Tryd.prog.info? 57).map (·.size) = some (matV n).size := by rw [mat_size]; kernel_rfl
theorem mat_one (n : Nat) : (matV n).all (·.oneCell') = true := by simp [matV, Value.oneCell']
theorem and1i (n : Int) : bits BinOp.and IntKind.i64 n 1 = n % 2 := by
  have h1 : (BitVec.ofInt 64 1).toNat = 2 ^ 1 - 1 := by decide
  have key : (BitVec.ofInt 64 n &&& BitVec.ofInt 64 1).toNat = (n % ((2 ^ 64 : Nat) : Int)).toNat % 2 ^ 1 := by
    rw [BitVec.toNat_and, BitVec.toNat_ofInt, h1, Nat.and_two_pow_sub_one_eq_mod]
  show IntKind.i64.wrap ((BitVec.ofInt 64 n &&& BitVec.ofInt 64 1).toNat : Nat) = n % 2
  rw [key, IntKind.wrap_i64]
  omega
theorem wpList_load_arr {P : Program} {w : World} {ops : Array Oper} {rest : List Oper} {op : Oper} {a : Act} {Q : Exit → Act → World → Prop} (hgd : op.guard = none) (ty : TypeId) (x : Operand) (ho : op.op = .load ty x)
    (b o : Nat) (hx : a.eval x = .pointer (some ⟨b, o, none⟩)) (cs : Array Value) (d : TypeDesc) (hc : w.rangeAt b o cs.toList)
    (hu : P.underlying ty = some d) (hd : d.isRow = true) (hi : (P.info? ty).map (·.size) = some cs.toList.length)
    (h : wpList P ops Q rest (a.put op.dst (.agg cs)) w) : wpList P ops Q (op :: rest) a w :=
  wpList_load_mid hgd ty x ho b o hx cs.toList d hc hu hd hi (by rw [Array.toArray_toList]; exact h)
theorem odd_half (N r : Nat) (h : r % 2 = 1) : N + (N + N) * (r / 2) = N * r := by
  have e : r = 2 * (r / 2) + 1 := by omega
  generalize r / 2 = q at *
  subst e
  rw [Nat.mul_add, Nat.mul_one, ← Nat.two_mul N, Nat.mul_comm 2 N, Nat.mul_assoc, Nat.add_comm]
theorem even_half (N r : Nat) (h : r % 2 = 0) : (N + N) * (r / 2) = N * r := by
  have e : r = 2 * (r / 2) := by omega
  generalize r / 2 = q at *
  subst e
  rw [← Nat.two_mul N, Nat.mul_comm 2 N, Nat.mul_assoc]
set_option maxRecDepth 100000 in set_option maxHeartbeats 1000000 in
theorem Combine_any (a0 b0 : Nat) (n0 : Nat) (w : World) (hN : Nib w) (ha : a0 < 4294967296) (hb : b0 < 4294967296) (hn : n0 < 9223372036854775808) :
    Calls Tryd.prog 18 #[.int .u32 a0, .int .u32 b0, .int .i64 n0] w fun e w' => e = .returned (.int .u32 (comb a0 b0 n0 : Nat)) ∧ Keeps (fun _ => False) w w' := by
  have HN := hid hN; have HA := hid ha; have HB := hid hb
  clear hN ha hb
  go_enter Tryd.func18, Tryd.ntmps18
  go_wp2_with fail
  refine (zero_any _ HN.out).mono ?_
  rintro e w1 ⟨rfl, hk1⟩
  have HK1 := hid hk1; clear hk1
  have HT : Hd ((w1.alloc (.cells (parA 8 0) 57)).there w1.heap.size 0 (matV 8).size) := hid (by have := blk_there (blk_new w1 (parA 8 0) 57); rw [par_size] at this; rw [mat_size]; exact this)
  have A1 : Hd (Arr ((w1.alloc (.cells (parA 8 0) 57)).setCells w1.heap.size 0 (matV 8).toList) w1.heap.size (matV 8).toList) := hid (arr_store (arr_blk (blk_new w1 (parA 8 0) 57)) _ (by rw [mat_len, Array.length_toList, par_size]))
  have HK2 : Hd (Keeps (fun _ => False) w ((w1.alloc (.cells (parA 8 0) 57)).setCells w1.heap.size 0 (matV 8).toList)) := hid (keeps_setCells _ _ 0 (HK1.out.alloc _) (.inr HK1.out.size))
  have HI := hid (mat_info' 8); have HO := hid (mat_one 8)
  have HP : Hd (w.heap.size ≤ w1.heap.size) := hid HK1.out.size
  generalize hm : matV 8 = m at *
  have HM := hid hm; clear hm
  go_wp2_with (refine wpList_store_mid rfl _ _ _ rfl _ _ m rfl (by simp [go_sem]) HT.out HI.out HO.out ?_)
  simp only [Act.put]
  change Code.wp _ _ _ _ ((w1.alloc (.cells (parA 8 0) 57)).setCells w1.heap.size 0 m.toList)
  generalize (w1.alloc (.cells (parA 8 0) 57)).setCells w1.heap.size 0 m.toList = w2 at *
  generalize w1.heap.size = p0 at *
  clear HT HI HO
  go_loopw [0, 2, 7] (fun r i q wr => ∃ (acc rem N p : Nat), r = .int .u32 acc ∧ i = .int .i64 rem ∧ q = .pointer (some ⟨p, 0, none⟩) ∧ rem ≤ n0 ∧ Hd (acc < 4294967296) ∧ Hd (steps (N * rem) acc = steps (8 * n0) a0) ∧ Hd (Arr wr p (matV N).toList) ∧ Hd (w.heap.size ≤ p) ∧ Hd (Keeps (fun _ => False) w wr)) (fun _ i _ _ => (intOf i).toNat)
  case atStart => exact ⟨a0, n0, 8, p0, rfl, rfl, rfl, by omega, HA, hid rfl, hid (by rw [HM.out]; exact A1.out), HP, HK2⟩
  case round =>
    obtain ⟨acc, rem, N, p, rfl, rfl, rfl, hrem, hacc, hst, harr, hp, hkeep⟩ := hrel
    clear A1 HP HK2
    by_cases h0 : rem = 0
    · have HE : Hd (comb a0 b0 n0 = acc ^^^ b0) := hid (by unfold comb; rw [← hst.out, h0, Nat.mul_zero]; rfl)
      have X1 := u32_xor_nat acc b0 hacc.out HB.out
      clear hst
      go_wp2
      go_ret
      exact ⟨ret_int (by rw [HE.out]), hkeep.out⟩
    · have HSQ : Hd (∀ W, Calls Tryd.prog 35 #[.agg (matV N)] W fun e w' => e = .returned (.agg (matV (N + N))) ∧ Keeps (fun _ => False) W w') := hid (fun W => squared_any N W)
      have HTT : Hd (∀ W, Calls Tryd.prog 34 #[.agg (matV N), .int .u32 acc] W fun e w' => e = .returned (.int .u32 (steps N acc : Nat)) ∧ Keeps (fun _ => False) W w') := hid (fun W => times_any N acc W hacc.out)
      have HI1 := hid (mat_info N); have HI2 := hid (mat_info' (N + N)); have HI3 := hid (mat_info (N + N)); have HO2 := hid (mat_one (N + N))
      have HL1 := hid (mat_len N); have HL2 := hid (mat_len (N + N))
      generalize hm1 : matV N = m1 at *
      generalize hm2 : matV (N + N) = m2 at *
      have HM2 := hid hm2
      clear hm1 hm2
      have hbit := and1i (rem : Int)
      by_cases ho : rem % 2 = 1
      · have hb1 : bits BinOp.and IntKind.i64 (rem : Int) 1 = 1 := by rw [hbit]; omega
        have HY : Hd (steps N acc < 4294967296) := hid (steps_lt N hacc.out)
        have HST2 : Hd (steps ((N + N) * (rem / 2)) (steps N acc) = steps (8 * n0) a0) := hid (by rw [← steps_add, ← hst.out, odd_half N rem ho])
        generalize steps N acc = acc2 at *
        clear hbit ho hst
        go_wp2_with (refine wpList_load_arr rfl _ _ rfl _ _ rfl _ _ harr.out.1 Tryd.underlying57 rfl HI1.out ?_)
        refine (HTT.out _).mono ?_
        rintro e w3 ⟨rfl, hk3⟩
        have HA3 : Hd (Arr w3 p m1.toList) := hid (arr_keep harr.out hk3 (fun h => h))
        have HK3 : Hd (Keeps (fun _ => False) w w3) := hid (hkeep.out.trans hk3)
        clear hk3
        go_wp2_with (refine wpList_load_arr rfl _ _ rfl _ _ rfl _ _ HA3.out.1 Tryd.underlying57 rfl HI1.out ?_)
        refine (HSQ.out _).mono ?_
        rintro e w4 ⟨rfl, hk4⟩
        have HT4 : Hd (w4.there p 0 m2.size) := hid (by have := (arr_keep HA3.out hk4 (fun h => h)).2; rw [HL1.out] at this; rw [← Array.length_toList, HL2.out]; exact this)
        have A5 : Hd (Arr (w4.setCells p 0 m2.toList) p m2.toList) := hid (arr_store (arr_keep HA3.out hk4 (fun h => h)) _ (by rw [HL1.out, HL2.out]))
        have K5 : Hd (Keeps (fun _ => False) w (w4.setCells p 0 m2.toList)) := hid (keeps_setCells p _ 0 (HK3.out.trans hk4) (.inr hp.out))
        clear hk4
        go_upto_region 8 with (first | (refine wpList_store_mid rfl _ _ _ rfl _ _ m2 rfl (by simp [go_sem]) HT4.out HI2.out HO2.out ?_) | (refine wpList_load_arr rfl _ _ rfl _ _ rfl _ _ A5.out.1 Tryd.underlying57 rfl HI3.out ?_))
        try simp only [Act.put]
        generalize w4.setCells p 0 m2.toList = w5 at *
        have HT : Hd ((w5.alloc (.cells (parA 8 0) 57)).there w5.heap.size 0 m2.size) := hid (by have := blk_there (blk_new w5 (parA 8 0) 57); rw [par_size] at this; have e : m2.size = 32 := (Array.length_toList (xs := m2)).symm.trans HL2.out; rw [e]; exact this)
        have A6 : Hd (Arr ((w5.alloc (.cells (parA 8 0) 57)).setCells w5.heap.size 0 m2.toList) w5.heap.size m2.toList) := hid (arr_store (arr_blk (blk_new w5 (parA 8 0) 57)) _ (by rw [HL2.out, Array.length_toList, par_size]))
        have HK6 : Hd (Keeps (fun _ => False) w ((w5.alloc (.cells (parA 8 0) 57)).setCells w5.heap.size 0 m2.toList)) := hid (keeps_setCells _ _ 0 (K5.out.alloc _) (.inr K5.out.size))
        have HP6 : Hd (w.heap.size ≤ w5.heap.size) := hid K5.out.size
        go_wp2_with (refine wpList_store_mid rfl _ _ _ rfl _ _ m2 rfl (by simp [go_sem]) HT.out HI2.out HO2.out ?_)
        go_roundw
        case rel => exact ⟨acc2, rem / 2, N + N, w5.heap.size, rfl, by go_num, rfl, by omega, HY, HST2, hid (by rw [HM2.out]; exact A6.out), HP6, HK6⟩
        case measure => simp [intOf]; omega
      · have hb1 : bits BinOp.and IntKind.i64 (rem : Int) 1 = 0 := by rw [hbit]; omega
        have HY := hacc
        have HST2 : Hd (steps ((N + N) * (rem / 2)) acc = steps (8 * n0) a0) := hid (by rw [← hst.out, even_half N rem (by omega)])
        have HA3 := harr
        have HK3 := hkeep
        clear hbit ho hst HTT
        go_wp2_with (refine wpList_load_arr rfl _ _ rfl _ _ rfl _ _ HA3.out.1 Tryd.underlying57 rfl HI1.out ?_)
        refine (HSQ.out _).mono ?_
        rintro e w4 ⟨rfl, hk4⟩
        have HT4 : Hd (w4.there p 0 m2.size) := hid (by have := (arr_keep HA3.out hk4 (fun h => h)).2; rw [HL1.out] at this; rw [← Array.length_toList, HL2.out]; exact this)
        have A5 : Hd (Arr (w4.setCells p 0 m2.toList) p m2.toList) := hid (arr_store (arr_keep HA3.out hk4 (fun h => h)) _ (by rw [HL1.out, HL2.out]))
        have K5 : Hd (Keeps (fun _ => False) w (w4.setCells p 0 m2.toList)) := hid (keeps_setCells p _ 0 (HK3.out.trans hk4) (.inr hp.out))
        clear hk4
        go_upto_region 8 with (first | (refine wpList_store_mid rfl _ _ _ rfl _ _ m2 rfl (by simp [go_sem]) HT4.out HI2.out HO2.out ?_) | (refine wpList_load_arr rfl _ _ rfl _ _ rfl _ _ A5.out.1 Tryd.underlying57 rfl HI3.out ?_))
        try simp only [Act.put]
        generalize w4.setCells p 0 m2.toList = w5 at *
        have HT : Hd ((w5.alloc (.cells (parA 8 0) 57)).there w5.heap.size 0 m2.size) := hid (by have := blk_there (blk_new w5 (parA 8 0) 57); rw [par_size] at this; have e : m2.size = 32 := (Array.length_toList (xs := m2)).symm.trans HL2.out; rw [e]; exact this)
        have A6 : Hd (Arr ((w5.alloc (.cells (parA 8 0) 57)).setCells w5.heap.size 0 m2.toList) w5.heap.size m2.toList) := hid (arr_store (arr_blk (blk_new w5 (parA 8 0) 57)) _ (by rw [HL2.out, Array.length_toList, par_size]))
        have HK6 : Hd (Keeps (fun _ => False) w ((w5.alloc (.cells (parA 8 0) 57)).setCells w5.heap.size 0 m2.toList)) := hid (keeps_setCells _ _ 0 (K5.out.alloc _) (.inr K5.out.size))
        have HP6 : Hd (w.heap.size ≤ w5.heap.size) := hid K5.out.size
        go_wp2_with (refine wpList_store_mid rfl _ _ _ rfl _ _ m2 rfl (by simp [go_sem]) HT.out HI2.out HO2.out ?_)
        go_roundw
        case rel => exact ⟨acc, rem / 2, N + N, w5.heap.size, rfl, by go_num, rfl, by omega, HY, HST2, hid (by rw [HM2.out]; exact A6.out), HP6, HK6⟩
        case measure => simp [intOf]; omega
end Go.Proofs.YtegdlgnofbjjcaaDoor
