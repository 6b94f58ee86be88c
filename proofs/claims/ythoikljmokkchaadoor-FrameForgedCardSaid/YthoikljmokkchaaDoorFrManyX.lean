/- Frames: FrMany, FrMany2: walks and plain facts. -/
import Derived.Test.YthoikljmokkchaaDoorTwoAll
import Derived.Test.YthoikljmokkchaaDoorFrS
namespace Go.Proofs.YthoikljmokkchaaDoor
open Go.RowKit
/-- what comes back: the receiver in lo's blocks or new ones, bodies, an error -/
def rcR (nx : Int) (fs : List Fr) (lk : Bool) (lkk : Nat) (li : Int) (bn : Nat) (er : Int) (K : Nat → Prop) (r : Value) (w : World) : Prop := ∃ a2 c2 a3 c3, r = .tuple #[.agg #[.int .i64 nx, .slice a2 fs.length c2, .bool lk, .int .u64 (lkk : Int), .int .i64 li], .slice a3 bn c3, .int .i64 er] ∧ Frs K w (.slice a2 fs.length c2) fs
def rcF (r : Value) : Array Value := aggCells (tupAt r 0)
set_option maxRecDepth 100000 in
set_option maxHeartbeats 4000000 in
theorem rcSem (ci ai si xi : Nat) (dep : List Nat) (fl : List (Value → Value)) (nx : Int) (fs : List Fr) (lk : Bool) (lkk : Nat) (li : Int) (bn : Nat) (er : Int) (hx : fl.getD xi (fun _ => undef) = fun r => tupAt r 0) :
    MSem Tryd.prog (mkMC ci dep [(ai, 35, #[.int .i64 0, .slice none 0 0, .bool false, .int .u64 0, .int .i64 0])] [(si, ai, xi)] fl (fun _ r => rcF r) (rcR nx fs lk lkk li bn er)) where
  al := fun j w h => by
    have hj : ai = j := by simpa [mkMC] using h
    subst hj
    have e1 : (mkMC ci dep [(ai, 35, #[.int .i64 0, .slice none 0 0, .bool false, .int .u64 0, .int .i64 0])] [(si, ai, xi)] fl (fun _ r => rcF r) (rcR nx fs lk lkk li bn er)).T ai = 35 := by simp [mkMC]
    have e2 : (mkMC ci dep [(ai, 35, #[.int .i64 0, .slice none 0 0, .bool false, .int .u64 0, .int .i64 0])] [(si, ai, xi)] fl (fun _ r => rcF r) (rcR nx fs lk lkk li bn er)).z ai = #[.int .i64 0, .slice none 0 0, .bool false, .int .u64 0, .int .i64 0] := by simp [mkMC]
    rw [e1, e2]
    go_simp
  rk := fun K S' r w w' h hk hS => by
    obtain ⟨a2, c2, a3, c3, e1, h1⟩ := h
    exact ⟨a2, c2, a3, c3, e1, h1.keep hk hS⟩
  rm := fun K K' r w h hK => by
    obtain ⟨a2, c2, a3, c3, e1, h1⟩ := h
    exact ⟨a2, c2, a3, c3, e1, h1.mono hK⟩
  st := fun s K r w b cs hs h hb hz => by
    have hj : si = s := by simpa [mkMC] using hs
    subst hj
    obtain ⟨a2, c2, a3, c3, rfl, h1⟩ := h
    have t1 : (mkMC ci dep [(ai, 35, #[.int .i64 0, .slice none 0 0, .bool false, .int .u64 0, .int .i64 0])] [(si, ai, xi)] fl (fun _ r => rcF r) (rcR nx fs lk lkk li bn er)).tgt si = ai := by simp [mkMC]
    have t2 : (mkMC ci dep [(ai, 35, #[.int .i64 0, .slice none 0 0, .bool false, .int .u64 0, .int .i64 0])] [(si, ai, xi)] fl (fun _ r => rcF r) (rcR nx fs lk lkk li bn er)).src si = xi := by simp [mkMC]
    have t3 : (mkMC ci dep [(ai, 35, #[.int .i64 0, .slice none 0 0, .bool false, .int .u64 0, .int .i64 0])] [(si, ai, xi)] fl (fun _ r => rcF r) (rcR nx fs lk lkk li bn er)).T ai = 35 := by simp [mkMC]
    have t4 : (mkMC ci dep [(ai, 35, #[.int .i64 0, .slice none 0 0, .bool false, .int .u64 0, .int .i64 0])] [(si, ai, xi)] fl (fun _ r => rcF r) (rcR nx fs lk lkk li bn er)).z ai = #[.int .i64 0, .slice none 0 0, .bool false, .int .u64 0, .int .i64 0] := by simp [mkMC]
    have t5 : (mkMC ci dep [(ai, 35, #[.int .i64 0, .slice none 0 0, .bool false, .int .u64 0, .int .i64 0])] [(si, ai, xi)] fl (fun _ r => rcF r) (rcR nx fs lk lkk li bn er)).V xi = fun r => tupAt r 0 := by show (fun r => fl.getD xi (fun _ => undef) r) = _; rw [hx]
    rw [t1, t3] at hb
    rw [t1, t4] at hz
    rw [t1, t2, t3, t4, t5]
    obtain ⟨q0, q1, q2, q3, q4, rfl⟩ : ∃ u0 u1 u2 u3 u4, cs = #[u0, u1, u2, u3, u4] := by
      obtain ⟨l⟩ := cs
      have hz : l.length = 5 := hz
      match l, hz with
      | [u0, u1, u2, u3, u4], _ => exact ⟨u0, u1, u2, u3, u4, rfl⟩
    have g0 := blk_cell hb 0; have g1 := blk_cell hb 1; have g2 := blk_cell hb 2; have g3 := blk_cell hb 3; have g4 := blk_cell hb 4
    have f0 := blk_free hb 0; have f1 := blk_free hb 1; have f2 := blk_free hb 2; have f3 := blk_free hb 3; have f4 := blk_free hb 4
    simp only [List.getElem?_toArray, List.getElem?_cons_zero, List.getElem?_cons_succ] at g0 g1 g2 g3 g4
    refine ⟨((((w.setCell ⟨b, 0, none⟩ (.int .i64 nx)).setCell ⟨b, 1, none⟩ (.slice a2 fs.length c2)).setCell ⟨b, 2, none⟩ (.bool lk)).setCell ⟨b, 3, none⟩ (.int .u64 (lkk : Int))).setCell ⟨b, 4, none⟩ (.int .i64 li), ?_, keep5 _ _ _ _ _ _ _, blkset5 hb, rfl⟩
    show (Instr.storeAt 35 _ (.agg #[.int .i64 nx, .slice a2 fs.length c2, .bool lk, .int .u64 (lkk : Int), .int .i64 li])).run Tryd.prog w = _
    go_simp
end Go.Proofs.YthoikljmokkchaaDoor
namespace Go.Proofs.YthoikljmokkchaaDoor
open Go.RowKit
end Go.Proofs.YthoikljmokkchaaDoor
