/- Frames: FrMany, FrMany2: walks and plain facts. -/
import Derived.Test.YthoikljmokkchaaDoorTwoAll
import Derived.Test.YthoikljmokkchaaDoorFrS
namespace Go.Proofs.YthoikljmokkchaaDoor
open Go.RowKit
end Go.Proofs.YthoikljmokkchaaDoor
namespace Go.Proofs.YthoikljmokkchaaDoor
open Go.RowKit
/-- one frame whose cells are known -/
def knR (r0 : Value) (_K : Nat → Prop) (r : Value) (_w : World) : Prop := r = r0
set_option maxRecDepth 100000 in
set_option maxHeartbeats 4000000 in
theorem kfSem (ci ai si xi : Nat) (dep : List Nat) (fl : List (Value → Value)) (r0 : Value) (q k : Int) (u : Bool) (a : Option Addr) (n c : Nat) (t : Nat) (hx : fl.getD xi (fun _ => undef) = fun _ => .agg #[.int .i64 q, .int .i64 k, .bool u, .slice a n c, .int .u64 (t : Int)]) :
    MSem Tryd.prog (mkMC ci dep [(ai, 25, #[.int .i64 0, .int .i64 0, .bool false, .slice none 0 0, .int .u64 0])] [(si, ai, xi)] fl (fun _ _ => #[.int .i64 q, .int .i64 k, .bool u, .slice a n c, .int .u64 (t : Int)]) (knR r0)) where
  al := fun j w h => by
    have hj : ai = j := by simpa [mkMC] using h
    subst hj
    have e1 : (mkMC ci dep [(ai, 25, #[.int .i64 0, .int .i64 0, .bool false, .slice none 0 0, .int .u64 0])] [(si, ai, xi)] fl (fun _ _ => #[.int .i64 q, .int .i64 k, .bool u, .slice a n c, .int .u64 (t : Int)]) (knR r0)).T ai = 25 := by simp [mkMC]
    have e2 : (mkMC ci dep [(ai, 25, #[.int .i64 0, .int .i64 0, .bool false, .slice none 0 0, .int .u64 0])] [(si, ai, xi)] fl (fun _ _ => #[.int .i64 q, .int .i64 k, .bool u, .slice a n c, .int .u64 (t : Int)]) (knR r0)).z ai = #[.int .i64 0, .int .i64 0, .bool false, .slice none 0 0, .int .u64 0] := by simp [mkMC]
    rw [e1, e2]
    go_simp
  rk := fun K S' r w w' h hk hS => h
  rm := fun K K' r w h hK => h
  st := fun s K r w b cs hs h hb hz => by
    have hj : si = s := by simpa [mkMC] using hs
    subst hj
    have t1 : (mkMC ci dep [(ai, 25, #[.int .i64 0, .int .i64 0, .bool false, .slice none 0 0, .int .u64 0])] [(si, ai, xi)] fl (fun _ _ => #[.int .i64 q, .int .i64 k, .bool u, .slice a n c, .int .u64 (t : Int)]) (knR r0)).tgt si = ai := by simp [mkMC]
    have t2 : (mkMC ci dep [(ai, 25, #[.int .i64 0, .int .i64 0, .bool false, .slice none 0 0, .int .u64 0])] [(si, ai, xi)] fl (fun _ _ => #[.int .i64 q, .int .i64 k, .bool u, .slice a n c, .int .u64 (t : Int)]) (knR r0)).src si = xi := by simp [mkMC]
    have t3 : (mkMC ci dep [(ai, 25, #[.int .i64 0, .int .i64 0, .bool false, .slice none 0 0, .int .u64 0])] [(si, ai, xi)] fl (fun _ _ => #[.int .i64 q, .int .i64 k, .bool u, .slice a n c, .int .u64 (t : Int)]) (knR r0)).T ai = 25 := by simp [mkMC]
    have t4 : (mkMC ci dep [(ai, 25, #[.int .i64 0, .int .i64 0, .bool false, .slice none 0 0, .int .u64 0])] [(si, ai, xi)] fl (fun _ _ => #[.int .i64 q, .int .i64 k, .bool u, .slice a n c, .int .u64 (t : Int)]) (knR r0)).z ai = #[.int .i64 0, .int .i64 0, .bool false, .slice none 0 0, .int .u64 0] := by simp [mkMC]
    have t5 : (mkMC ci dep [(ai, 25, #[.int .i64 0, .int .i64 0, .bool false, .slice none 0 0, .int .u64 0])] [(si, ai, xi)] fl (fun _ _ => #[.int .i64 q, .int .i64 k, .bool u, .slice a n c, .int .u64 (t : Int)]) (knR r0)).V xi = fun _ => .agg #[.int .i64 q, .int .i64 k, .bool u, .slice a n c, .int .u64 (t : Int)] := by show (fun r => fl.getD xi (fun _ => undef) r) = _; rw [hx]
    rw [t1, t3] at hb
    rw [t1, t4] at hz
    rw [t1, t2, t3, t4, t5]
    obtain ⟨q0, q1, q2, q3, q4, rfl⟩ : ∃ u0 u1 u2 u3 u4, cs = #[u0, u1, u2, u3, u4] := by
      obtain ⟨l⟩ := cs
      have hz : l.length = 5 := hz
      match l, hz with
      | [u0, u1, u2, u3, u4], _ => exact ⟨u0, u1, u2, u3, u4, rfl⟩
    have g0 := blk_cell hb 0; have g1 := blk_cell hb 1; have g2 := blk_cell hb 2; have g3 := blk_cell hb 3; have g4 := blk_cell hb 4
    have f0 := blk_free hb 0; have f1 := blk_free hb 1; have f2 := blk_free hb 2; have f3 := blk_free hb 3; have f4 := blk_free hb 4
    simp only [List.getElem?_toArray, List.getElem?_cons_zero, List.getElem?_cons_succ] at g0 g1 g2 g3 g4
    refine ⟨((((w.setCell ⟨b, 0, none⟩ (.int .i64 q)).setCell ⟨b, 1, none⟩ (.int .i64 k)).setCell ⟨b, 2, none⟩ (.bool u)).setCell ⟨b, 3, none⟩ (.slice a n c)).setCell ⟨b, 4, none⟩ (.int .u64 (t : Int)), ?_, keep5 _ _ _ _ _ _ _, blkset5 hb, rfl⟩
    show (Instr.storeAt 25 _ (.agg #[.int .i64 q, .int .i64 k, .bool u, .slice a n c, .int .u64 (t : Int)])).run Tryd.prog w = _
    go_simp
/-- bytes that came back -/
def slR (en : List Nat) (K : Nat → Prop) (r : Value) (w : World) : Prop := ∃ an cn, r = .slice an en.length cn ∧ Sl K w (.slice an en.length cn) (u8s en)
set_option maxRecDepth 100000 in
set_option maxHeartbeats 4000000 in
theorem klSem (ci ai si xi : Nat) (dep : List Nat) (fl : List (Value → Value)) (en : List Nat) (k : Nat) (i : Int) (hx : fl.getD xi (fun _ => undef) = fun _ => .agg #[.int .u64 (k : Int), .int .i64 i]) :
    MSem Tryd.prog (mkMC ci dep [(ai, 33, #[.int .u64 0, .int .i64 0])] [(si, ai, xi)] fl (fun _ _ => #[.int .u64 (k : Int), .int .i64 i]) (slR en)) where
  al := fun j w h => by
    have hj : ai = j := by simpa [mkMC] using h
    subst hj
    have e1 : (mkMC ci dep [(ai, 33, #[.int .u64 0, .int .i64 0])] [(si, ai, xi)] fl (fun _ _ => #[.int .u64 (k : Int), .int .i64 i]) (slR en)).T ai = 33 := by simp [mkMC]
    have e2 : (mkMC ci dep [(ai, 33, #[.int .u64 0, .int .i64 0])] [(si, ai, xi)] fl (fun _ _ => #[.int .u64 (k : Int), .int .i64 i]) (slR en)).z ai = #[.int .u64 0, .int .i64 0] := by simp [mkMC]
    rw [e1, e2]
    go_simp
  rk := fun K S' r w w' h hk hS => by
    obtain ⟨an, cn, e, h1⟩ := h
    exact ⟨an, cn, e, h1.keep hk hS⟩
  rm := fun K K' r w h hK => by
    obtain ⟨an, cn, e, h1⟩ := h
    exact ⟨an, cn, e, h1.mono hK⟩
  st := fun s K r w b cs hs h hb hz => by
    have hj : si = s := by simpa [mkMC] using hs
    subst hj
    have t1 : (mkMC ci dep [(ai, 33, #[.int .u64 0, .int .i64 0])] [(si, ai, xi)] fl (fun _ _ => #[.int .u64 (k : Int), .int .i64 i]) (slR en)).tgt si = ai := by simp [mkMC]
    have t2 : (mkMC ci dep [(ai, 33, #[.int .u64 0, .int .i64 0])] [(si, ai, xi)] fl (fun _ _ => #[.int .u64 (k : Int), .int .i64 i]) (slR en)).src si = xi := by simp [mkMC]
    have t3 : (mkMC ci dep [(ai, 33, #[.int .u64 0, .int .i64 0])] [(si, ai, xi)] fl (fun _ _ => #[.int .u64 (k : Int), .int .i64 i]) (slR en)).T ai = 33 := by simp [mkMC]
    have t4 : (mkMC ci dep [(ai, 33, #[.int .u64 0, .int .i64 0])] [(si, ai, xi)] fl (fun _ _ => #[.int .u64 (k : Int), .int .i64 i]) (slR en)).z ai = #[.int .u64 0, .int .i64 0] := by simp [mkMC]
    have t5 : (mkMC ci dep [(ai, 33, #[.int .u64 0, .int .i64 0])] [(si, ai, xi)] fl (fun _ _ => #[.int .u64 (k : Int), .int .i64 i]) (slR en)).V xi = fun _ => .agg #[.int .u64 (k : Int), .int .i64 i] := by show (fun r => fl.getD xi (fun _ => undef) r) = _; rw [hx]
    rw [t1, t3] at hb
    rw [t1, t4] at hz
    rw [t1, t2, t3, t4, t5]
    obtain ⟨q0, q1, rfl⟩ : ∃ u0 u1, cs = #[u0, u1] := by
      obtain ⟨l⟩ := cs
      have hz : l.length = 2 := hz
      match l, hz with
      | [u0, u1], _ => exact ⟨u0, u1, rfl⟩
    have g0 := blk_cell hb 0; have g1 := blk_cell hb 1
    have f0 := blk_free hb 0; have f1 := blk_free hb 1
    simp only [List.getElem?_toArray, List.getElem?_cons_zero, List.getElem?_cons_succ] at g0 g1
    refine ⟨(w.setCell ⟨b, 0, none⟩ (.int .u64 (k : Int))).setCell ⟨b, 1, none⟩ (.int .i64 i), ?_, keq (keq (Keeps.refl _ _) _ _) _ _, blkset2 hb, rfl⟩
    show (Instr.storeAt 33 _ (.agg #[.int .u64 (k : Int), .int .i64 i])).run Tryd.prog w = _
    go_simp
end Go.Proofs.YthoikljmokkchaaDoor
