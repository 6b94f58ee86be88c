/- Frame: a region whose two results are known: a frame and a ladder. -/
import Derived.Test.YthoikljmokkchaaDoorTwo
import Derived.Test.YthoikljmokkchaaDoorFrH
namespace Go.Proofs.YthoikljmokkchaaDoor
open Go.RowKit
def vlCfg (dyn : List Nat) (tC tM t0 t1 tF tS : Nat) (vl : List Value) (rest : List Value) (TF TS : TypeId) (zF zS : Array Value) (X Y : Array Value) : TwoC where
  ci := dyn.getD 0 0
  mi := dyn.getD 1 0
  x0i := dyn.getD 2 0
  x1i := dyn.getD 3 0
  fi := dyn.getD 4 0
  si := dyn.getD 5 0
  sfi := dyn.getD 6 0
  ssi := dyn.getD 7 0
  tC := tC
  tM := tM
  t0 := t0
  t1 := t1
  tF := tF
  tS := tS
  TF := TF
  TS := TS
  zF := zF
  zS := zS
  tup := fun x y => .tuple (x :: y :: rest).toArray
  cF := aggCells
  cS := aggCells
  isV := fun i => !(dyn.contains i)
  V := fun i => vl.getD i undef
  R := fun _ x y _ => x = .agg X ∧ y = .agg Y
section
variable {c m x0 x1 f s sf ss tC tM t0 t1 tF tS : Nat} {vl rest : List Value} {TF TS : TypeId} {zF zS X Y : Array Value} {l : List Oper} {n : Nat}
theorem vlVal (h : valB (fun i => !([c, m, x0, x1, f, s, sf, ss].contains i)) l = true) : ∀ (i : Nat) o, l[i]? = some o → (vlCfg [c, m, x0, x1, f, s, sf, ss] tC tM t0 t1 tF tS vl rest TF TS zF zS X Y).isV i = true → ∃ d, o.dst = some d := valB_spec h
theorem vlNd (h : [c, m, x0, x1, f, s, sf, ss].Nodup) : [(vlCfg [c, m, x0, x1, f, s, sf, ss] tC tM t0 t1 tF tS vl rest TF TS zF zS X Y).ci, (vlCfg [c, m, x0, x1, f, s, sf, ss] tC tM t0 t1 tF tS vl rest TF TS zF zS X Y).mi, (vlCfg [c, m, x0, x1, f, s, sf, ss] tC tM t0 t1 tF tS vl rest TF TS zF zS X Y).x0i, (vlCfg [c, m, x0, x1, f, s, sf, ss] tC tM t0 t1 tF tS vl rest TF TS zF zS X Y).x1i, (vlCfg [c, m, x0, x1, f, s, sf, ss] tC tM t0 t1 tF tS vl rest TF TS zF zS X Y).fi, (vlCfg [c, m, x0, x1, f, s, sf, ss] tC tM t0 t1 tF tS vl rest TF TS zF zS X Y).si, (vlCfg [c, m, x0, x1, f, s, sf, ss] tC tM t0 t1 tF tS vl rest TF TS zF zS X Y).sfi, (vlCfg [c, m, x0, x1, f, s, sf, ss] tC tM t0 t1 tF tS vl rest TF TS zF zS X Y).ssi].Nodup := h
theorem vlAll (h : allB (fun i => !([c, m, x0, x1, f, s, sf, ss].contains i)) [c, m, x0, x1, f, s, sf, ss] n = true) : ∀ i, i < n → (vlCfg [c, m, x0, x1, f, s, sf, ss] tC tM t0 t1 tF tS vl rest TF TS zF zS X Y).isV i = true ∨ i = c ∨ i = m ∨ i = x0 ∨ i = x1 ∨ i = f ∨ i = s ∨ i = sf ∨ i = ss := allB_spec (C := vlCfg [c, m, x0, x1, f, s, sf, ss] tC tM t0 t1 tF tS vl rest TF TS zF zS X Y) h
end
set_option maxRecDepth 100000 in
set_option maxHeartbeats 4000000 in
theorem flSem (dyn : List Nat) (tC tM t0 t1 tF tS : Nat) (vl rest : List Value) (q k : Int) (u : Bool) (a : Option Addr) (n c : Nat) (t lk : Nat) (li : Int) :
    TwoSem Tryd.prog (vlCfg dyn tC tM t0 t1 tF tS vl rest 25 33 #[.int .i64 0, .int .i64 0, .bool false, .slice none 0 0, .int .u64 0] #[.int .u64 0, .int .i64 0] #[(.int .i64 q), (.int .i64 k), (.bool u), (.slice a n c), (.int .u64 (t : Int))] #[(.int .u64 (lk : Int)), (.int .i64 li)]) where
  e0 := fun x y => rfl
  e1 := fun x y => rfl
  aF := fun w => by
    show (Instr.alloc 25 true (.tuple #[])).run Tryd.prog w = _
    go_simp
    rfl
  aS := fun w => by
    show (Instr.alloc 33 true (.tuple #[])).run Tryd.prog w = _
    go_simp
    rfl
  rk := fun K S' x y w w' h hk hS => h
  rm := fun K K' x y w h hK => h
  stF := fun K x y w b cs h hb hs => by
    obtain ⟨rfl, e2⟩ := h
    obtain ⟨q0, q1, q2, q3, q4, rfl⟩ : ∃ u0 u1 u2 u3 u4, cs = #[u0, u1, u2, u3, u4] := by
      obtain ⟨l⟩ := cs
      have hs : l.length = 5 := hs
      match l, hs with
      | [u0, u1, u2, u3, u4], _ => exact ⟨u0, u1, u2, u3, u4, rfl⟩
    have g0 := blk_cell hb 0; have g1 := blk_cell hb 1; have g2 := blk_cell hb 2; have g3 := blk_cell hb 3; have g4 := blk_cell hb 4
    have f0 := blk_free hb 0; have f1 := blk_free hb 1; have f2 := blk_free hb 2; have f3 := blk_free hb 3; have f4 := blk_free hb 4
    simp only [List.getElem?_toArray, List.getElem?_cons_zero, List.getElem?_cons_succ] at g0 g1 g2 g3 g4
    refine ⟨((((w.setCell ⟨b, 0, none⟩ (.int .i64 q)).setCell ⟨b, 1, none⟩ (.int .i64 k)).setCell ⟨b, 2, none⟩ (.bool u)).setCell ⟨b, 3, none⟩ (.slice a n c)).setCell ⟨b, 4, none⟩ (.int .u64 (t : Int)), ?_, keep5 _ _ _ _ _ _ _, blkset5 hb, rfl⟩
    show (Instr.storeAt 25 _ _).run Tryd.prog w = _
    go_simp
  stS := fun K x y w b cs h hb hs => by
    obtain ⟨e1, rfl⟩ := h
    obtain ⟨q0, q1, rfl⟩ : ∃ u0 u1, cs = #[u0, u1] := by
      obtain ⟨l⟩ := cs
      have hs : l.length = 2 := hs
      match l, hs with
      | [u0, u1], _ => exact ⟨u0, u1, rfl⟩
    have g0 := blk_cell hb 0; have g1 := blk_cell hb 1
    have f0 := blk_free hb 0; have f1 := blk_free hb 1
    simp only [List.getElem?_toArray, List.getElem?_cons_zero, List.getElem?_cons_succ] at g0 g1
    refine ⟨(w.setCell ⟨b, 0, none⟩ (.int .u64 (lk : Int))).setCell ⟨b, 1, none⟩ (.int .i64 li), ?_, keq (keq (Keeps.refl _ _) _ _) _ _, blkset2 hb, rfl⟩
    show (Instr.storeAt 33 _ _).run Tryd.prog w = _
    go_simp
end Go.Proofs.YthoikljmokkchaaDoor
