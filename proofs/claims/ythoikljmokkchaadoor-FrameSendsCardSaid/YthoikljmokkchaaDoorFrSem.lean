/- Frame: regions that lay a call's results down as a frame and a sender. -/
import Derived.Test.YthoikljmokkchaaDoorTwoAll
import Derived.Test.YthoikljmokkchaaDoorFrMid
namespace Go.Proofs.YthoikljmokkchaaDoor
open Go.RowKit
theorem five_of {cs : Array Value} (h : cs.size = 5) : ∃ u0 u1 u2 u3 u4, cs = #[u0, u1, u2, u3, u4] := by
  obtain ⟨l⟩ := cs
  have hz : l.length = 5 := h
  match l, hz with
  | [u0, u1, u2, u3, u4], _ => exact ⟨u0, u1, u2, u3, u4, rfl⟩
theorem four_of {cs : Array Value} (h : cs.size = 4) : ∃ u0 u1 u2 u3, cs = #[u0, u1, u2, u3] := by
  obtain ⟨l⟩ := cs
  have hz : l.length = 4 := h
  match l, hz with
  | [u0, u1, u2, u3], _ => exact ⟨u0, u1, u2, u3, rfl⟩
set_option maxRecDepth 100000 in
set_option maxHeartbeats 4000000 in
theorem st_frame {w : World} {b : Nat} {cs : Array Value} (hb : Blk w b cs 25) (hz : cs.size = 5) (q k : Int) (u : Bool) (a : Option Addr) (n c t : Nat) :
    ∃ w', (Instr.storeAt 25 (.pointer (some ⟨b, 0, none⟩)) (.agg #[.int .i64 q, .int .i64 k, .bool u, .slice a n c, .int .u64 ((t : Nat) : Int)])).run Tryd.prog w = .ok () w' ∧ Keeps (fun k => k = b) w w' ∧ Blk w' b #[.int .i64 q, .int .i64 k, .bool u, .slice a n c, .int .u64 ((t : Nat) : Int)] 25 := by
  obtain ⟨q0, q1, q2, q3, q4, rfl⟩ := five_of hz
  have g0 := blk_cell hb 0; have g1 := blk_cell hb 1; have g2 := blk_cell hb 2; have g3 := blk_cell hb 3; have g4 := blk_cell hb 4
  have f0 := blk_free hb 0; have f1 := blk_free hb 1; have f2 := blk_free hb 2; have f3 := blk_free hb 3; have f4 := blk_free hb 4
  simp only [List.getElem?_toArray, List.getElem?_cons_zero, List.getElem?_cons_succ] at g0 g1 g2 g3 g4
  refine ⟨((((w.setCell ⟨b, 0, none⟩ (.int .i64 q)).setCell ⟨b, 1, none⟩ (.int .i64 k)).setCell ⟨b, 2, none⟩ (.bool u)).setCell ⟨b, 3, none⟩ (.slice a n c)).setCell ⟨b, 4, none⟩ (.int .u64 (t : Int)), ?_, keep5 _ _ _ _ _ _ _, blkset5 hb⟩
  go_simp
set_option maxRecDepth 100000 in
set_option maxHeartbeats 4000000 in
theorem st_sender {w : World} {b : Nat} {cs : Array Value} (hb : Blk w b cs 57) (hz : cs.size = 4) (a2 : Option Addr) (n2 c2 : Nat) (ac : Int) (lk : Nat) (li : Int) :
    ∃ w', (Instr.storeAt 57 (.pointer (some ⟨b, 0, none⟩)) (.agg #[.slice a2 n2 c2, .int .i64 ac, .int .u64 ((lk : Nat) : Int), .int .i64 li])).run Tryd.prog w = .ok () w' ∧ Keeps (fun k => k = b) w w' ∧ Blk w' b #[.slice a2 n2 c2, .int .i64 ac, .int .u64 ((lk : Nat) : Int), .int .i64 li] 57 := by
  obtain ⟨q0, q1, q2, q3, rfl⟩ := four_of hz
  have g0 := blk_cell hb 0; have g1 := blk_cell hb 1; have g2 := blk_cell hb 2; have g3 := blk_cell hb 3
  have f0 := blk_free hb 0; have f1 := blk_free hb 1; have f2 := blk_free hb 2; have f3 := blk_free hb 3
  simp only [List.getElem?_toArray, List.getElem?_cons_zero, List.getElem?_cons_succ] at g0 g1 g2 g3
  refine ⟨(((w.setCell ⟨b, 0, none⟩ (.slice a2 n2 c2)).setCell ⟨b, 1, none⟩ (.int .i64 ac)).setCell ⟨b, 2, none⟩ (.int .u64 (lk : Int))).setCell ⟨b, 3, none⟩ (.int .i64 li), ?_, keep4 _ _ _ _ _ _, blkset4 hb⟩
  go_simp
set_option maxRecDepth 100000 in
set_option maxHeartbeats 4000000 in
theorem fsSem (ci ai aj si sj xi xj : Nat) (dep : List Nat) (fl : List (Value → Value)) (R : (Nat → Prop) → Value → World → Prop) (h1 : ai ≠ aj) (h2 : si ≠ sj) (hx : fl.getD xi (fun _ => undef) = fun r => tupAt r 0) (hy : fl.getD xj (fun _ => undef) = fun r => tupAt r 1)
    (hrk : ∀ (K S : Nat → Prop) r w w', R K r w → Keeps S w w' → (∀ b, b < w.heap.size → K b → ¬ S b) → R K r w') (hrm : ∀ (K K' : Nat → Prop) r w, R K r w → (∀ b, b < w.heap.size → K b → K' b) → R K' r w)
    (hsh : ∀ K r w, R K r w → (∃ q k u a n c t, tupAt r 0 = .agg #[.int .i64 q, .int .i64 k, .bool u, .slice a n c, .int .u64 ((t : Nat) : Int)]) ∧ ∃ a2 n2 c2 ac lk li, tupAt r 1 = .agg #[.slice a2 n2 c2, .int .i64 ac, .int .u64 ((lk : Nat) : Int), .int .i64 li]) :
    MSem Tryd.prog (mkMC ci dep [(ai, 25, #[.int .i64 0, .int .i64 0, .bool false, .slice none 0 0, .int .u64 0]), (aj, 57, #[.slice none 0 0, .int .i64 0, .int .u64 0, .int .i64 0])] [(si, ai, xi), (sj, aj, xj)] fl (fun s r => if s = si then aggCells (tupAt r 0) else aggCells (tupAt r 1)) R) where
  al := fun j w h => by
    have hj : ai = j ∨ aj = j := by simpa [mkMC] using h
    rcases hj with rfl | rfl
    · have e1 : (mkMC ci dep [(ai, 25, #[.int .i64 0, .int .i64 0, .bool false, .slice none 0 0, .int .u64 0]), (aj, 57, #[.slice none 0 0, .int .i64 0, .int .u64 0, .int .i64 0])] [(si, ai, xi), (sj, aj, xj)] fl (fun s r => if s = si then aggCells (tupAt r 0) else aggCells (tupAt r 1)) R).T ai = 25 := by simp [mkMC]
      have e2 : (mkMC ci dep [(ai, 25, #[.int .i64 0, .int .i64 0, .bool false, .slice none 0 0, .int .u64 0]), (aj, 57, #[.slice none 0 0, .int .i64 0, .int .u64 0, .int .i64 0])] [(si, ai, xi), (sj, aj, xj)] fl (fun s r => if s = si then aggCells (tupAt r 0) else aggCells (tupAt r 1)) R).z ai = #[.int .i64 0, .int .i64 0, .bool false, .slice none 0 0, .int .u64 0] := by simp [mkMC]
      rw [e1, e2]
      go_simp
    · have e1 : (mkMC ci dep [(ai, 25, #[.int .i64 0, .int .i64 0, .bool false, .slice none 0 0, .int .u64 0]), (aj, 57, #[.slice none 0 0, .int .i64 0, .int .u64 0, .int .i64 0])] [(si, ai, xi), (sj, aj, xj)] fl (fun s r => if s = si then aggCells (tupAt r 0) else aggCells (tupAt r 1)) R).T aj = 57 := by simp [mkMC, h1]
      have e2 : (mkMC ci dep [(ai, 25, #[.int .i64 0, .int .i64 0, .bool false, .slice none 0 0, .int .u64 0]), (aj, 57, #[.slice none 0 0, .int .i64 0, .int .u64 0, .int .i64 0])] [(si, ai, xi), (sj, aj, xj)] fl (fun s r => if s = si then aggCells (tupAt r 0) else aggCells (tupAt r 1)) R).z aj = #[.slice none 0 0, .int .i64 0, .int .u64 0, .int .i64 0] := by simp [mkMC, h1]
      rw [e1, e2]
      go_simp
  rk := hrk
  rm := hrm
  st := fun s K r w b cs hs h hb hz => by
    obtain ⟨⟨q, k, u, a, n, c, t, e0⟩, ⟨a2, n2, c2, ac, lk, li, e1⟩⟩ := hsh K r w h
    have hj : si = s ∨ sj = s := by simpa [mkMC] using hs
    rcases hj with rfl | rfl
    · have t1 : (mkMC ci dep [(ai, 25, #[.int .i64 0, .int .i64 0, .bool false, .slice none 0 0, .int .u64 0]), (aj, 57, #[.slice none 0 0, .int .i64 0, .int .u64 0, .int .i64 0])] [(si, ai, xi), (sj, aj, xj)] fl (fun s r => if s = si then aggCells (tupAt r 0) else aggCells (tupAt r 1)) R).tgt si = ai := by simp [mkMC]
      have t2 : (mkMC ci dep [(ai, 25, #[.int .i64 0, .int .i64 0, .bool false, .slice none 0 0, .int .u64 0]), (aj, 57, #[.slice none 0 0, .int .i64 0, .int .u64 0, .int .i64 0])] [(si, ai, xi), (sj, aj, xj)] fl (fun s r => if s = si then aggCells (tupAt r 0) else aggCells (tupAt r 1)) R).src si = xi := by simp [mkMC]
      have t3 : (mkMC ci dep [(ai, 25, #[.int .i64 0, .int .i64 0, .bool false, .slice none 0 0, .int .u64 0]), (aj, 57, #[.slice none 0 0, .int .i64 0, .int .u64 0, .int .i64 0])] [(si, ai, xi), (sj, aj, xj)] fl (fun s r => if s = si then aggCells (tupAt r 0) else aggCells (tupAt r 1)) R).T ai = 25 := by simp [mkMC]
      have t4 : (mkMC ci dep [(ai, 25, #[.int .i64 0, .int .i64 0, .bool false, .slice none 0 0, .int .u64 0]), (aj, 57, #[.slice none 0 0, .int .i64 0, .int .u64 0, .int .i64 0])] [(si, ai, xi), (sj, aj, xj)] fl (fun s r => if s = si then aggCells (tupAt r 0) else aggCells (tupAt r 1)) R).z ai = #[.int .i64 0, .int .i64 0, .bool false, .slice none 0 0, .int .u64 0] := by simp [mkMC]
      have t5 : (mkMC ci dep [(ai, 25, #[.int .i64 0, .int .i64 0, .bool false, .slice none 0 0, .int .u64 0]), (aj, 57, #[.slice none 0 0, .int .i64 0, .int .u64 0, .int .i64 0])] [(si, ai, xi), (sj, aj, xj)] fl (fun s r => if s = si then aggCells (tupAt r 0) else aggCells (tupAt r 1)) R).V xi r = .agg #[.int .i64 q, .int .i64 k, .bool u, .slice a n c, .int .u64 ((t : Nat) : Int)] := by show fl.getD xi (fun _ => undef) r = _; rw [hx]; exact e0
      have t6 : (mkMC ci dep [(ai, 25, #[.int .i64 0, .int .i64 0, .bool false, .slice none 0 0, .int .u64 0]), (aj, 57, #[.slice none 0 0, .int .i64 0, .int .u64 0, .int .i64 0])] [(si, ai, xi), (sj, aj, xj)] fl (fun s r => if s = si then aggCells (tupAt r 0) else aggCells (tupAt r 1)) R).cF si r = #[.int .i64 q, .int .i64 k, .bool u, .slice a n c, .int .u64 ((t : Nat) : Int)] := by simp [mkMC, e0, aggCells]
      rw [t1, t3] at hb
      rw [t1, t4] at hz
      rw [t1, t2, t3, t4, t5, t6]
      obtain ⟨w', g1, g2, g3⟩ := st_frame hb hz q k u a n c t
      exact ⟨w', g1, g2, g3, rfl⟩
    · have t1 : (mkMC ci dep [(ai, 25, #[.int .i64 0, .int .i64 0, .bool false, .slice none 0 0, .int .u64 0]), (aj, 57, #[.slice none 0 0, .int .i64 0, .int .u64 0, .int .i64 0])] [(si, ai, xi), (sj, aj, xj)] fl (fun s r => if s = si then aggCells (tupAt r 0) else aggCells (tupAt r 1)) R).tgt sj = aj := by simp [mkMC, h2]
      have t2 : (mkMC ci dep [(ai, 25, #[.int .i64 0, .int .i64 0, .bool false, .slice none 0 0, .int .u64 0]), (aj, 57, #[.slice none 0 0, .int .i64 0, .int .u64 0, .int .i64 0])] [(si, ai, xi), (sj, aj, xj)] fl (fun s r => if s = si then aggCells (tupAt r 0) else aggCells (tupAt r 1)) R).src sj = xj := by simp [mkMC, h2]
      have t3 : (mkMC ci dep [(ai, 25, #[.int .i64 0, .int .i64 0, .bool false, .slice none 0 0, .int .u64 0]), (aj, 57, #[.slice none 0 0, .int .i64 0, .int .u64 0, .int .i64 0])] [(si, ai, xi), (sj, aj, xj)] fl (fun s r => if s = si then aggCells (tupAt r 0) else aggCells (tupAt r 1)) R).T aj = 57 := by simp [mkMC, h1]
      have t4 : (mkMC ci dep [(ai, 25, #[.int .i64 0, .int .i64 0, .bool false, .slice none 0 0, .int .u64 0]), (aj, 57, #[.slice none 0 0, .int .i64 0, .int .u64 0, .int .i64 0])] [(si, ai, xi), (sj, aj, xj)] fl (fun s r => if s = si then aggCells (tupAt r 0) else aggCells (tupAt r 1)) R).z aj = #[.slice none 0 0, .int .i64 0, .int .u64 0, .int .i64 0] := by simp [mkMC, h1]
      have t5 : (mkMC ci dep [(ai, 25, #[.int .i64 0, .int .i64 0, .bool false, .slice none 0 0, .int .u64 0]), (aj, 57, #[.slice none 0 0, .int .i64 0, .int .u64 0, .int .i64 0])] [(si, ai, xi), (sj, aj, xj)] fl (fun s r => if s = si then aggCells (tupAt r 0) else aggCells (tupAt r 1)) R).V xj r = .agg #[.slice a2 n2 c2, .int .i64 ac, .int .u64 ((lk : Nat) : Int), .int .i64 li] := by show fl.getD xj (fun _ => undef) r = _; rw [hy]; exact e1
      have t6 : (mkMC ci dep [(ai, 25, #[.int .i64 0, .int .i64 0, .bool false, .slice none 0 0, .int .u64 0]), (aj, 57, #[.slice none 0 0, .int .i64 0, .int .u64 0, .int .i64 0])] [(si, ai, xi), (sj, aj, xj)] fl (fun s r => if s = si then aggCells (tupAt r 0) else aggCells (tupAt r 1)) R).cF sj r = #[.slice a2 n2 c2, .int .i64 ac, .int .u64 ((lk : Nat) : Int), .int .i64 li] := by simp [mkMC, e1, aggCells, Ne.symm h2]
      rw [t1, t3] at hb
      rw [t1, t4] at hz
      rw [t1, t2, t3, t4, t5, t6]
      obtain ⟨w', g1, g2, g3⟩ := st_sender hb hz a2 n2 c2 ac lk li
      exact ⟨w', g1, g2, g3, rfl⟩
set_option maxRecDepth 100000 in
set_option maxHeartbeats 4000000 in
theorem sdSem (ci ai si xi : Nat) (dep : List Nat) (fl : List (Value → Value)) (R : (Nat → Prop) → Value → World → Prop) (hx : fl.getD xi (fun _ => undef) = fun r => tupAt r 0)
    (hrk : ∀ (K S : Nat → Prop) r w w', R K r w → Keeps S w w' → (∀ b, b < w.heap.size → K b → ¬ S b) → R K r w') (hrm : ∀ (K K' : Nat → Prop) r w, R K r w → (∀ b, b < w.heap.size → K b → K' b) → R K' r w)
    (hsh : ∀ K r w, R K r w → ∃ a2 n2 c2 ac lk li, tupAt r 0 = .agg #[.slice a2 n2 c2, .int .i64 ac, .int .u64 ((lk : Nat) : Int), .int .i64 li]) :
    MSem Tryd.prog (mkMC ci dep [(ai, 57, #[.slice none 0 0, .int .i64 0, .int .u64 0, .int .i64 0])] [(si, ai, xi)] fl (fun _ r => aggCells (tupAt r 0)) R) where
  al := fun j w h => by
    have hj : ai = j := by simpa [mkMC] using h
    subst hj
    have e1 : (mkMC ci dep [(ai, 57, #[.slice none 0 0, .int .i64 0, .int .u64 0, .int .i64 0])] [(si, ai, xi)] fl (fun _ r => aggCells (tupAt r 0)) R).T ai = 57 := by simp [mkMC]
    have e2 : (mkMC ci dep [(ai, 57, #[.slice none 0 0, .int .i64 0, .int .u64 0, .int .i64 0])] [(si, ai, xi)] fl (fun _ r => aggCells (tupAt r 0)) R).z ai = #[.slice none 0 0, .int .i64 0, .int .u64 0, .int .i64 0] := by simp [mkMC]
    rw [e1, e2]
    go_simp
  rk := hrk
  rm := hrm
  st := fun s K r w b cs hs h hb hz => by
    obtain ⟨a2, n2, c2, ac, lk, li, e1⟩ := hsh K r w h
    have hj : si = s := by simpa [mkMC] using hs
    subst hj
    have t1 : (mkMC ci dep [(ai, 57, #[.slice none 0 0, .int .i64 0, .int .u64 0, .int .i64 0])] [(si, ai, xi)] fl (fun _ r => aggCells (tupAt r 0)) R).tgt si = ai := by simp [mkMC]
    have t2 : (mkMC ci dep [(ai, 57, #[.slice none 0 0, .int .i64 0, .int .u64 0, .int .i64 0])] [(si, ai, xi)] fl (fun _ r => aggCells (tupAt r 0)) R).src si = xi := by simp [mkMC]
    have t3 : (mkMC ci dep [(ai, 57, #[.slice none 0 0, .int .i64 0, .int .u64 0, .int .i64 0])] [(si, ai, xi)] fl (fun _ r => aggCells (tupAt r 0)) R).T ai = 57 := by simp [mkMC]
    have t4 : (mkMC ci dep [(ai, 57, #[.slice none 0 0, .int .i64 0, .int .u64 0, .int .i64 0])] [(si, ai, xi)] fl (fun _ r => aggCells (tupAt r 0)) R).z ai = #[.slice none 0 0, .int .i64 0, .int .u64 0, .int .i64 0] := by simp [mkMC]
    have t5 : (mkMC ci dep [(ai, 57, #[.slice none 0 0, .int .i64 0, .int .u64 0, .int .i64 0])] [(si, ai, xi)] fl (fun _ r => aggCells (tupAt r 0)) R).V xi r = .agg #[.slice a2 n2 c2, .int .i64 ac, .int .u64 ((lk : Nat) : Int), .int .i64 li] := by show fl.getD xi (fun _ => undef) r = _; rw [hx]; exact e1
    have t6 : (mkMC ci dep [(ai, 57, #[.slice none 0 0, .int .i64 0, .int .u64 0, .int .i64 0])] [(si, ai, xi)] fl (fun _ r => aggCells (tupAt r 0)) R).cF si r = #[.slice a2 n2 c2, .int .i64 ac, .int .u64 ((lk : Nat) : Int), .int .i64 li] := by simp [mkMC, e1, aggCells]
    rw [t1, t3] at hb
    rw [t1, t4] at hz
    rw [t1, t2, t3, t4, t5, t6]
    obtain ⟨w', g1, g2, g3⟩ := st_sender hb hz a2 n2 c2 ac lk li
    exact ⟨w', g1, g2, g3, rfl⟩
/-- results that are known -/
def knR2 (r0 : Value) (_K : Nat → Prop) (r : Value) (_w : World) : Prop := r = r0
/-- a frame and a sender, their bytes in K -/
def fsR (F : Fr) (S : Sd) (rest : List Value) (K : Nat → Prop) (r : Value) (w : World) : Prop := ∃ a1 c1 a2 c2, r = .tuple (.agg #[.int .i64 F.q, .int .i64 F.k, .bool F.u, .slice a1 F.b.length c1, .int .u64 (F.t : Int)] :: .agg #[.slice a2 S.bs.length c2, .int .i64 S.a, .int .u64 (S.l.k : Int), .int .i64 S.l.i] :: rest).toArray ∧ Sl K w (.slice a1 F.b.length c1) (u8s F.b) ∧ Bds K w (.slice a2 S.bs.length c2) S.bs
def sdR (S : Sd) (rest : List Value) (K : Nat → Prop) (r : Value) (w : World) : Prop := ∃ a2 c2, r = .tuple (.agg #[.slice a2 S.bs.length c2, .int .i64 S.a, .int .u64 (S.l.k : Int), .int .i64 S.l.i] :: rest).toArray ∧ Bds K w (.slice a2 S.bs.length c2) S.bs
theorem fsR_rk (F : Fr) (S : Sd) (rest : List Value) : ∀ (K S' : Nat → Prop) r w w', fsR F S rest K r w → Keeps S' w w' → (∀ b, b < w.heap.size → K b → ¬ S' b) → fsR F S rest K r w' := fun K S' r w w' ⟨a1, c1, a2, c2, e, h1, h2⟩ hk hd => ⟨a1, c1, a2, c2, e, h1.keep hk hd, h2.keep hk hd⟩
theorem fsR_rm (F : Fr) (S : Sd) (rest : List Value) : ∀ (K K' : Nat → Prop) r w, fsR F S rest K r w → (∀ b, b < w.heap.size → K b → K' b) → fsR F S rest K' r w := fun K K' r w ⟨a1, c1, a2, c2, e, h1, h2⟩ hd => ⟨a1, c1, a2, c2, e, h1.mono hd, h2.mono hd⟩
theorem fsR_sh (F : Fr) (S : Sd) (rest : List Value) : ∀ K r w, fsR F S rest K r w → (∃ q k u a n c t, tupAt r 0 = .agg #[.int .i64 q, .int .i64 k, .bool u, .slice a n c, .int .u64 ((t : Nat) : Int)]) ∧ ∃ a2 n2 c2 ac lk li, tupAt r 1 = .agg #[.slice a2 n2 c2, .int .i64 ac, .int .u64 ((lk : Nat) : Int), .int .i64 li] := fun K r w ⟨a1, c1, a2, c2, e, _, _⟩ => by
  subst e
  exact ⟨⟨_, _, _, _, _, _, _, rfl⟩, ⟨_, _, _, _, _, _, rfl⟩⟩
theorem sdR_rk (S : Sd) (rest : List Value) : ∀ (K S' : Nat → Prop) r w w', sdR S rest K r w → Keeps S' w w' → (∀ b, b < w.heap.size → K b → ¬ S' b) → sdR S rest K r w' := fun K S' r w w' ⟨a2, c2, e, h2⟩ hk hd => ⟨a2, c2, e, h2.keep hk hd⟩
theorem sdR_rm (S : Sd) (rest : List Value) : ∀ (K K' : Nat → Prop) r w, sdR S rest K r w → (∀ b, b < w.heap.size → K b → K' b) → sdR S rest K' r w := fun K K' r w ⟨a2, c2, e, h2⟩ hd => ⟨a2, c2, e, h2.mono hd⟩
theorem sdR_sh (S : Sd) (rest : List Value) : ∀ K r w, sdR S rest K r w → ∃ a2 n2 c2 ac lk li, tupAt r 0 = .agg #[.slice a2 n2 c2, .int .i64 ac, .int .u64 ((lk : Nat) : Int), .int .i64 li] := fun K r w ⟨a2, c2, e, _⟩ => by
  subst e
  exact ⟨_, _, _, _, _, _, rfl⟩
def fsRD (D : Nat → Prop) (F : Fr) (S : Sd) (rest : List Value) (K : Nat → Prop) (r : Value) (w : World) : Prop := fsR F S rest (fun b => K b ∧ D b) r w
def sdRD (D : Nat → Prop) (S : Sd) (rest : List Value) (K : Nat → Prop) (r : Value) (w : World) : Prop := sdR S rest (fun b => K b ∧ D b) r w
theorem fsRD_rk (D : Nat → Prop) (F : Fr) (S : Sd) (rest : List Value) : ∀ (K S' : Nat → Prop) r w w', fsRD D F S rest K r w → Keeps S' w w' → (∀ b, b < w.heap.size → K b → ¬ S' b) → fsRD D F S rest K r w' := fun _ _ _ _ _ h hk hd => fsR_rk _ _ _ _ _ _ _ _ h hk (fun b hb h => hd b hb h.1)
theorem fsRD_rm (D : Nat → Prop) (F : Fr) (S : Sd) (rest : List Value) : ∀ (K K' : Nat → Prop) r w, fsRD D F S rest K r w → (∀ b, b < w.heap.size → K b → K' b) → fsRD D F S rest K' r w := fun _ _ _ _ h hd => fsR_rm _ _ _ _ _ _ _ h (fun b hb h => ⟨hd b hb h.1, h.2⟩)
theorem fsRD_sh (D : Nat → Prop) (F : Fr) (S : Sd) (rest : List Value) : ∀ K r w, fsRD D F S rest K r w → (∃ q k u a n c t, tupAt r 0 = .agg #[.int .i64 q, .int .i64 k, .bool u, .slice a n c, .int .u64 ((t : Nat) : Int)]) ∧ ∃ a2 n2 c2 ac lk li, tupAt r 1 = .agg #[.slice a2 n2 c2, .int .i64 ac, .int .u64 ((lk : Nat) : Int), .int .i64 li] := fun _ _ _ h => fsR_sh _ _ _ _ _ _ h
theorem sdRD_rk (D : Nat → Prop) (S : Sd) (rest : List Value) : ∀ (K S' : Nat → Prop) r w w', sdRD D S rest K r w → Keeps S' w w' → (∀ b, b < w.heap.size → K b → ¬ S' b) → sdRD D S rest K r w' := fun _ _ _ _ _ h hk hd => sdR_rk _ _ _ _ _ _ _ h hk (fun b hb h => hd b hb h.1)
theorem sdRD_rm (D : Nat → Prop) (S : Sd) (rest : List Value) : ∀ (K K' : Nat → Prop) r w, sdRD D S rest K r w → (∀ b, b < w.heap.size → K b → K' b) → sdRD D S rest K' r w := fun _ _ _ _ h hd => sdR_rm _ _ _ _ _ _ h (fun b hb h => ⟨hd b hb h.1, h.2⟩)
theorem sdRD_sh (D : Nat → Prop) (S : Sd) (rest : List Value) : ∀ K r w, sdRD D S rest K r w → ∃ a2 n2 c2 ac lk li, tupAt r 0 = .agg #[.slice a2 n2 c2, .int .i64 ac, .int .u64 ((lk : Nat) : Int), .int .i64 li] := fun _ _ _ h => sdR_sh _ _ _ _ _ h
end Go.Proofs.YthoikljmokkchaaDoor
