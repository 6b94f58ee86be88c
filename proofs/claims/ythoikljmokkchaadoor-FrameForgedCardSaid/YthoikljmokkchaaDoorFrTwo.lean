/- Frame: the region of an emitted frame. -/
import Derived.Test.YthoikljmokkchaaDoorTwoAll
import Derived.Test.YthoikljmokkchaaDoorFrWrl
namespace Go.Proofs.YthoikljmokkchaaDoor
open Go.RowKit
def emR (F : Fr) (S : Sd) (K : Nat → Prop) (x y : Value) (w : World) : Prop := ∃ a1 c1 a2 c2, x = .agg #[.int .i64 F.q, .int .i64 F.k, .bool F.u, .slice a1 F.b.length c1, .int .u64 (F.t : Int)] ∧ y = .agg #[.slice a2 S.bs.length c2, .int .i64 S.a, .int .u64 (S.l.k : Int), .int .i64 S.l.i] ∧ Sl K w (.slice a1 F.b.length c1) (u8s F.b) ∧ Bds K w (.slice a2 S.bs.length c2) S.bs
def emCfg (dyn : List Nat) (tC tM t0 t1 tF tS : Nat) (vl : List Value) (rest : List Value) (F : Fr) (S : Sd) : TwoC where
  ci := dyn.getD 0 0
  mi := dyn.getD 1 0
  x0i := dyn.getD 2 0
  x1i := dyn.getD 3 0
  fi := dyn.getD 4 0
  si := dyn.getD 5 0
  sfi := dyn.getD 6 0
  ssi := dyn.getD 7 0
  tC := tC
  tM := tM
  t0 := t0
  t1 := t1
  tF := tF
  tS := tS
  TF := 25
  TS := 57
  zF := #[.int .i64 0, .int .i64 0, .bool false, .slice none 0 0, .int .u64 0]
  zS := #[.slice none 0 0, .int .i64 0, .int .u64 0, .int .i64 0]
  tup := fun x y => .tuple (x :: y :: rest).toArray
  cF := aggCells
  cS := aggCells
  isV := fun i => !(dyn.contains i)
  V := fun i => vl.getD i undef
  R := emR F S
set_option maxRecDepth 100000 in
set_option maxHeartbeats 4000000 in
theorem emSem (dyn : List Nat) (tC tM t0 t1 tF tS : Nat) (vl rest : List Value) (F : Fr) (S : Sd) : TwoSem Tryd.prog (emCfg dyn tC tM t0 t1 tF tS vl rest F S) where
  e0 := fun x y => rfl
  e1 := fun x y => rfl
  aF := fun w => by
    show (Instr.alloc 25 true (.tuple #[])).run Tryd.prog w = _
    go_simp
    rfl
  aS := fun w => by
    show (Instr.alloc 57 true (.tuple #[])).run Tryd.prog w = _
    go_simp
    rfl
  rk := fun K S' x y w w' h hk hS => by
    obtain ⟨a1, c1, a2, c2, e1, e2, h1, h2⟩ := h
    exact ⟨a1, c1, a2, c2, e1, e2, h1.keep hk hS, h2.keep hk hS⟩
  rm := fun K K' x y w h hK => by
    obtain ⟨a1, c1, a2, c2, e1, e2, h1, h2⟩ := h
    exact ⟨a1, c1, a2, c2, e1, e2, h1.mono hK, h2.mono hK⟩
  stF := fun K x y w b cs h hb hs => by
    obtain ⟨a1, c1, a2, c2, rfl, e2, h1, h2⟩ := h
    obtain ⟨u0, u1, u2, u3, u4, rfl⟩ : ∃ u0 u1 u2 u3 u4, cs = #[u0, u1, u2, u3, u4] := by
      obtain ⟨l⟩ := cs
      have hs : l.length = 5 := hs
      match l, hs with
      | [u0, u1, u2, u3, u4], _ => exact ⟨u0, u1, u2, u3, u4, rfl⟩
    have g0 := blk_cell hb 0; have g1 := blk_cell hb 1; have g2 := blk_cell hb 2; have g3 := blk_cell hb 3; have g4 := blk_cell hb 4
    have f0 := blk_free hb 0; have f1 := blk_free hb 1; have f2 := blk_free hb 2; have f3 := blk_free hb 3; have f4 := blk_free hb 4
    simp only [List.getElem?_toArray, List.getElem?_cons_zero, List.getElem?_cons_succ] at g0 g1 g2 g3 g4
    refine ⟨((((w.setCell ⟨b, 0, none⟩ (.int .i64 F.q)).setCell ⟨b, 1, none⟩ (.int .i64 F.k)).setCell ⟨b, 2, none⟩ (.bool F.u)).setCell ⟨b, 3, none⟩ (.slice a1 F.b.length c1)).setCell ⟨b, 4, none⟩ (.int .u64 (F.t : Int)), ?_, keep5 _ _ _ _ _ _ _, blkset5 hb, rfl⟩
    show (Instr.storeAt 25 _ _).run Tryd.prog w = _
    go_simp
  stS := fun K x y w b cs h hb hs => by
    obtain ⟨a1, c1, a2, c2, e1, rfl, h1, h2⟩ := h
    obtain ⟨u0, u1, u2, u3, rfl⟩ : ∃ u0 u1 u2 u3, cs = #[u0, u1, u2, u3] := by
      obtain ⟨l⟩ := cs
      have hs : l.length = 4 := hs
      match l, hs with
      | [u0, u1, u2, u3], _ => exact ⟨u0, u1, u2, u3, rfl⟩
    have g0 := blk_cell hb 0; have g1 := blk_cell hb 1; have g2 := blk_cell hb 2; have g3 := blk_cell hb 3
    have f0 := blk_free hb 0; have f1 := blk_free hb 1; have f2 := blk_free hb 2; have f3 := blk_free hb 3
    simp only [List.getElem?_toArray, List.getElem?_cons_zero, List.getElem?_cons_succ] at g0 g1 g2 g3
    refine ⟨(((w.setCell ⟨b, 0, none⟩ (.slice a2 S.bs.length c2)).setCell ⟨b, 1, none⟩ (.int .i64 S.a)).setCell ⟨b, 2, none⟩ (.int .u64 (S.l.k : Int))).setCell ⟨b, 3, none⟩ (.int .i64 S.l.i), ?_, keep4 _ _ _ _ _ _, blkset4 hb, rfl⟩
    show (Instr.storeAt 57 _ _).run Tryd.prog w = _
    go_simp
section
variable {c m x0 x1 f s sf ss tC tM t0 t1 tF tS : Nat} {vl rest : List Value} {F : Fr} {S : Sd} {l : List Oper} {n : Nat}
theorem emVal (h : valB (fun i => !([c, m, x0, x1, f, s, sf, ss].contains i)) l = true) : ∀ (i : Nat) o, l[i]? = some o → (emCfg [c, m, x0, x1, f, s, sf, ss] tC tM t0 t1 tF tS vl rest F S).isV i = true → ∃ d, o.dst = some d := valB_spec h
theorem emNd (h : [c, m, x0, x1, f, s, sf, ss].Nodup) : [(emCfg [c, m, x0, x1, f, s, sf, ss] tC tM t0 t1 tF tS vl rest F S).ci, (emCfg [c, m, x0, x1, f, s, sf, ss] tC tM t0 t1 tF tS vl rest F S).mi, (emCfg [c, m, x0, x1, f, s, sf, ss] tC tM t0 t1 tF tS vl rest F S).x0i, (emCfg [c, m, x0, x1, f, s, sf, ss] tC tM t0 t1 tF tS vl rest F S).x1i, (emCfg [c, m, x0, x1, f, s, sf, ss] tC tM t0 t1 tF tS vl rest F S).fi, (emCfg [c, m, x0, x1, f, s, sf, ss] tC tM t0 t1 tF tS vl rest F S).si, (emCfg [c, m, x0, x1, f, s, sf, ss] tC tM t0 t1 tF tS vl rest F S).sfi, (emCfg [c, m, x0, x1, f, s, sf, ss] tC tM t0 t1 tF tS vl rest F S).ssi].Nodup := h
theorem emAll (h : allB (fun i => !([c, m, x0, x1, f, s, sf, ss].contains i)) [c, m, x0, x1, f, s, sf, ss] n = true) : ∀ i, i < n → (emCfg [c, m, x0, x1, f, s, sf, ss] tC tM t0 t1 tF tS vl rest F S).isV i = true ∨ i = c ∨ i = m ∨ i = x0 ∨ i = x1 ∨ i = f ∨ i = s ∨ i = sf ∨ i = ss := allB_spec (C := emCfg [c, m, x0, x1, f, s, sf, ss] tC tM t0 t1 tF tS vl rest F S) h
end
end Go.Proofs.YthoikljmokkchaaDoor
