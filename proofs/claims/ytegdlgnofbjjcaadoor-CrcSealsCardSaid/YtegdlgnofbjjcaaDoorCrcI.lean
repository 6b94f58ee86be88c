/- The matrices: squared. -/
import Derived.Test.YtegdlgnofbjjcaaDoorCrcH
namespace Go.Proofs.YtegdlgnofbjjcaaDoor
open Go.RowKit
attribute [local go_sem ↓] Go.wp_at_zero Go.wp_at_succ
theorem steps_twice (n r : Nat) : steps n (steps n r) = steps (n + n) r := (steps_add n n r).symm
/-- the load of a whole array in a region that draws, in order -/
theorem wpQuiet_load_arr {P : Program} {ops : Array Oper} {C : World → Prop} {Q : Act → Prop} {rest : List Oper} {op : Oper} {a : Act} (hw : Region.wanted op (yielded ops a.tmps) = true) (ty : TypeId) (x : Operand) (ho : op.op = .load ty x)
    (b o : Nat) (hx : a.eval x = .pointer (some ⟨b, o, none⟩)) (cs : Array Value) (d : TypeDesc) (hS : ∀ w, C w → w.rangeAt b o cs.toList)
    (hu : P.underlying ty = some d) (hd : d.isRow = true) (hi : (P.info? ty).map (·.size) = some cs.toList.length)
    (h : wpQuiet P ops C Q rest (a.put op.dst (.agg cs))) : wpQuiet P ops C Q (op :: rest) a := by
  refine wpQuiet_step fun K hK => ?_
  rw [if_pos hw]
  refine ⟨.agg cs, fun w hw' => ?_, hK _ h⟩
  have hl := run_loadVar_mid (P := P) w b o ty cs.toList d (hS w hw') hu hd hi
  rw [Array.toArray_toList] at hl
  unfold Oper.quietAt execOp
  simp only [ho, hx, Instr.loadAt, Instr.sureAddr, Sem.run_bind, Sem.run_pure, Result.andThen_ok, hl]
  exact ⟨rfl, rfl⟩
set_option maxRecDepth 100000 in set_option maxHeartbeats 1000000 in
theorem squared_any (n : Nat) (w : World) :
    Calls Tryd.prog 35 #[.agg (matV n)] w fun e w' => e = .returned (.agg (matV (n + n))) ∧ Keeps (fun _ => False) w w' := by
  have HM : Hd (∀ i, i < 32 → (matV n)[i]? = some (.int .u32 (steps n (2 ^ i) : Nat))) := hid (mat_at n)
  have HZ := hid (mat_size n)
  generalize hm : matV n = m at *
  have HMM := hid hm; clear hm
  go_enter Tryd.func35, Tryd.ntmps35
  go_wp2_with fail
  have B0 : Hd (Blk (((w.alloc (.cells m 57)).alloc (.cells (parA (n + n) 0) 57)).alloc (.cells (parA (n + n) 0) 57)) w.heap.size m 57) := hid (blk_alloc (blk_alloc (blk_new w _ _) _) _)
  have B1 : Hd (Blk (((w.alloc (.cells m 57)).alloc (.cells (parA (n + n) 0) 57)).alloc (.cells (parA (n + n) 0) 57)) (w.heap.size + 1) (parA (n + n) 0) 57) := hid (blk_alloc (blk_new' _ _ _ _ (by simp)) _)
  have B2 : Hd (Blk (((w.alloc (.cells m 57)).alloc (.cells (parA (n + n) 0) 57)).alloc (.cells (parA (n + n) 0) 57)) (w.heap.size + 2) (parA (n + n) 0) 57) := hid (blk_new' _ _ _ _ (by simp))
  have HK : Hd (Keeps (fun _ => False) w (((w.alloc (.cells m 57)).alloc (.cells (parA (n + n) 0) 57)).alloc (.cells (parA (n + n) 0) 57))) := hid (((keeps_alloc _ _ _).trans (keeps_alloc _ _ _)).trans (keeps_alloc _ _ _))
  change Code.wp _ _ _ _ (((w.alloc (.cells m 57)).alloc (.cells (parA (n + n) 0) 57)).alloc (.cells (parA (n + n) 0) 57))
  generalize (((w.alloc (.cells m 57)).alloc (.cells (parA (n + n) 0) 57)).alloc (.cells (parA (n + n) 0) 57)) = w1 at *
  generalize hb : w.heap.size = b at *
  have HB := hid hb
  clear hb
  go_loopw [4, 5] (fun i2 i wr => ∃ k : Nat, k ≤ 32 ∧ i = .int .i64 k ∧ Hd (Blk wr b m 57) ∧ Hd (Blk wr (b + 1) (parA (n + n) 0) 57) ∧ Hd (Blk wr (b + 2) (parA (n + n) k) 57) ∧ Hd (Keeps (fun _ => False) w wr)) (fun _ i _ => 32 - (intOf i).toNat)
  case atStart => exact ⟨0, by omega, rfl, B0, B1, B2, HK⟩
  case round =>
    obtain ⟨k, hk, rfl, C0, C1, C2, CK⟩ := hrel
    by_cases hlt : k < 32
    · have k1 : (k : Int) < 32 := by omega
      have k2 : (0 : Int) ≤ k := by omega
      go_upto_region 5 with fail
      have HS0 : Hd (∀ w', (∃ x : Ext wr, w' = x.w) → w'.rangeAt b 0 m.toList) := hid (fun w' ⟨x, e⟩ => by subst e; exact blk_range (ext_blk C0.out x))
      have HI0 : Hd ((Tryd.prog.info? 57).map (·.size) = some m.toList.length) := hid (by rw [Array.length_toList, HZ.out]; kernel_rfl)
      have hzl : Hd (steps n (2 ^ k) < 4294967296) := hid (steps_lt n (Nat.pow_lt_pow_right (n := 32) (by decide) hlt))
      have HTT : Hd (∀ x : Ext wr, Calls Tryd.prog 34 #[.agg m, .int .u32 (steps n (2 ^ k) : Nat)] x.w fun e w'' => e = .returned (.int .u32 (steps (n + n) (2 ^ k) : Nat)) ∧ Keeps (fun _ => False) x.w w'') := hid (fun x => by have := times_any n (steps n (2 ^ k)) x.w hzl.out; rw [HMM.out, steps_twice] at this; exact this)
      have HS := hid (par_set (n + n) k hlt)
      have e0 : ∀ x : Ext wr, x.w.cell? ⟨b, k, none⟩ = some (.int .u32 (steps n (2 ^ k) : Nat)) := ext_bcell C0.out k (HM.out k hlt)
      have e2 : ∀ x : Ext wr, x.w.cell? ⟨b + 1 + 1, k, none⟩ = some (.int .u32 0) := ext_bcell C2.out k (by simp [parA, hlt])
      have e3 : ∀ x : Ext wr, x.w.frozen? ⟨b + 1 + 1, k, none⟩ = false := ext_bfree C2.out k
      generalize steps n (2 ^ k) = y at *
      generalize hz2 : steps (n + n) (2 ^ k) = z at *
      clear hz2
      refine wp_region_ext_tail 7 (by kernel_rfl) (by kernel_rfl) ?_; simp only [List.take_succ_cons, List.take_zero, List.drop_succ_cons, List.drop_zero]
      go_big_quiet_step (fail)
      refine wpQuiet_load_arr (by rfl) _ _ rfl _ _ rfl _ _ HS0.out Tryd.underlying57 rfl HI0.out ?_
      simp only [Act.put, List.setIfInBounds_toArray, List.set_cons_zero, List.set_cons_succ]
      repeat (go_big_quiet_step (first | (go_at_call 34; exact ext_call (HTT.out _))))
      refine wpQuiet_nil ?_
      rintro _ ⟨x, rfl⟩
      have e4 := e2 x
      have e5 := e3 x
      clear e0 e2 e3
      go_wp2
      go_roundw
      case rel =>
        refine ⟨k + 1, by omega, by go_num, hid (blk_other (ext_blk C0.out x) (by omega) _ _), hid (blk_other (ext_blk C1.out x) (by omega) _ _), hid ?_, hid ((CK.out.trans x.k).setCell (.inr (by show _ ≤ b + 1 + 1; rw [HB.out]; omega)) _)⟩
        have := blk_set (ext_blk C2.out x) k (.int .u32 (z : Nat))
        rw [HS.out] at this
        exact this
      case measure => simp [intOf]; omega
    · have hk2 : k = 32 := by omega
      have C3 : Hd (Blk wr (b + 2) (matV (n + n)) 57) := hid (by have := C2.out; rw [hk2, par_all] at this; exact this)
      clear hk2 C2
      have HR : Hd (wr.rangeAt (b + 2) 0 (matV (n + n)).toList) := hid (blk_range C3.out)
      have HT : Hd (wr.there (b + 1) 0 (matV (n + n)).size) := hid (by have := blk_there C1.out; rw [par_size] at this; rw [mat_size]; exact this)
      have HQ : Hd ((wr.setCells (b + 1) 0 (matV (n + n)).toList).rangeAt (b + 1) 0 (matV (n + n)).toList) := hid (World.rangeAt_setCells_same wr (b + 1) 0 _ (by have := HT.out; rw [Array.length_toList]; exact this))
      have HKF : Hd (Keeps (fun _ => False) w (wr.setCells (b + 1) 0 (matV (n + n)).toList)) := hid (keeps_setCells (b + 1) _ 0 CK.out (.inr (by rw [HB.out]; omega)))
      have HI : Hd ((Tryd.prog.info? 57).map (·.size) = some (matV (n + n)).toList.length) := hid (by rw [Array.length_toList, mat_size]; kernel_rfl)
      have H1 : Hd ((matV (n + n)).all (·.oneCell') = true) := hid (by simp [matV, Value.oneCell'])
      have HLd := hid (run_loadVar_mid (P := Tryd.prog) (wr.setCells (b + 1) 0 (matV (n + n)).toList) (b + 1) 0 57 _ _ HQ.out Tryd.underlying57 rfl HI.out)
      generalize hm2 : matV (n + n) = m2 at *
      have HM2 := hid hm2; clear hm2
      go_wp2_with (refine wpList_load_mid rfl _ _ rfl _ _ rfl _ _ HR.out Tryd.underlying57 rfl HI.out ?_; refine wpList_store_mid rfl _ _ _ rfl _ _ m2 rfl (by simp [go_sem]) HT.out (by rw [← Array.length_toList]; exact HI.out) H1.out ?_)
      have hld := HLd.out
      have hal : m2.toList.toArray = m2 := by simp
      rw [hal] at hld
      refine bodyPost_ret (v := .agg m2) (results_cell1 Tryd.results35 _ _ ⟨b + 1, 0, none⟩ _ rfl hld) rfl ⟨by rw [HM2.out], HKF.out⟩
end Go.Proofs.YtegdlgnofbjjcaaDoor
