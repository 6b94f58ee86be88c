/- The matrices: squared. -/
import Derived.Test.YtgeicbjlichdgaaDoorCrcH
namespace Go.Proofs.YtgeicbjlichdgaaDoor.Cr
open Go.RowKit
attribute [local go_sem ↓] Go.wp_at_zero Go.wp_at_succ
theorem steps_twice (n r : Nat) : steps n (steps n r) = steps (n + n) r := (steps_add n n r).symm
/-- the load of a whole array in a region that draws, in order -/
theorem wpQuiet_load_arr {P : Program} {ops : Array Oper} {C : World → Prop} {Q : Act → Prop} {rest : List Oper} {op : Oper} {a : Act} (hw : Region.wanted op (yielded ops a.tmps) = true) (ty : TypeId) (x : Operand) (ho : op.op = .load ty x)
    (b o : Nat) (hx : a.eval x = .pointer (some ⟨b, o, none⟩)) (cs : Array Value) (d : TypeDesc) (hS : ∀ w, C w → w.rangeAt b o cs.toList)
    (hu : P.underlying ty = some d) (hd : d.isRow = true) (hi : (P.info? ty).map (·.size) = some cs.toList.length)
    (h : wpQuiet P ops C Q rest (a.put op.dst (.agg cs))) : wpQuiet P ops C Q (op :: rest) a := by
  refine wpQuiet_step fun K hK => ?_
  rw [if_pos hw]
  refine ⟨.agg cs, fun w hw' => ?_, hK _ h⟩
  have hl := run_loadVar_mid (P := P) w b o ty cs.toList d (hS w hw') hu hd hi
  rw [Array.toArray_toList] at hl
  unfold Oper.quietAt execOp
  simp only [ho, hx, Instr.loadAt, Instr.sureAddr, Sem.run_bind, Sem.run_pure, Result.andThen_ok, hl]
  exact ⟨rfl, rfl⟩
end Go.Proofs.YtgeicbjlichdgaaDoor.Cr
