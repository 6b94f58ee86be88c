/- Frames: FrWA, FrWB, FrWC: walks and plain facts. -/
import Derived.Test.YthoikljmokkchaaDoorFrS
import Derived.Test.YthoikljmokkchaaDoorFrHist
import Derived.Deep.DrawnRows
import Derived.Test.YthoikljmokkchaaDoorFrMid
namespace Go.Proofs.YthoikljmokkchaaDoor
open Go.RowKit
def RpCells (c : Nat → Value) (x : Rp) : Prop := c 0 = .int .i64 x.nx ∧ c 1 = .int .i64 x.ha ∧ c 2 = .int .i64 x.ky ∧ c 3 = .bool x.lk
def RpL (xs : List Value) (l : List Rp) : Prop := xs.length = l.length * 4 ∧ ∀ i x, l[i]? = some x → RpCells (fun j => xs.getD (i * 4 + j) undef) x
theorem RpL.nil : RpL [] [] := ⟨rfl, fun i x h => by simp at h⟩
theorem RpL.append {xs ys : List Value} {l m : List Rp} (h : RpL xs l) (h2 : RpL ys m) : RpL (xs ++ ys) (l ++ m) := by
  refine ⟨by rw [List.length_append, List.length_append, h.1, h2.1]; omega, fun i y hi => ?_⟩
  have cg : ∀ {c c' : Nat → Value}, RpCells c y → (∀ j, c' j = c j) → RpCells c' y := fun {c c'} hc e => by
    obtain ⟨h0, h1, h2, h3⟩ := hc
    exact ⟨(e 0).trans h0, (e 1).trans h1, (e 2).trans h2, (e 3).trans h3⟩
  rcases Nat.lt_or_ge i l.length with hl | hl
  · rw [List.getElem?_append_left hl] at hi
    have h3 := h.2 i y hi
    have key : ∀ j, j < 4 → (xs ++ ys).getD (i * 4 + j) undef = xs.getD (i * 4 + j) undef := fun j hj => by
      unfold List.getD
      rw [List.getElem?_append_left (by rw [h.1]; omega)]
    exact ⟨(key 0 (by omega)).trans h3.1, (key 1 (by omega)).trans h3.2.1, (key 2 (by omega)).trans h3.2.2.1, (key 3 (by omega)).trans h3.2.2.2⟩
  · rw [List.getElem?_append_right hl] at hi
    refine cg (h2.2 _ y hi) (fun j => ?_)
    unfold List.getD
    rw [List.getElem?_append_right (by rw [h.1]; omega), h.1]
    congr 2; omega
theorem RpL.one (x : Rp) : RpL [.int .i64 x.nx, .int .i64 x.ha, .int .i64 x.ky, .bool x.lk] [x] := by
  refine ⟨rfl, fun i y hi => ?_⟩
  match i, hi with
  | 0, hi => simp at hi; subst hi; exact ⟨rfl, rfl, rfl, rfl⟩
  | i + 1, hi => simp at hi
def RpO (w : World) (v : Value) (l : List Rp) : Prop := ∃ xs, Own (fun b => v.ownBlock = some b) w 50 4 v l.length xs ∧ RpL xs l
def FrO (D : Nat → Prop) (w : World) (v : Value) (l : List Fr) : Prop := ∃ xs, Own (fun b => v.ownBlock = some b) w 25 5 v l.length xs ∧ FrL D w xs l
def BdO (D : Nat → Prop) (w : World) (v : Value) (l : List (List Nat)) : Prop := ∃ xs, Own (fun b => v.ownBlock = some b) w 22 1 v l.length xs ∧ BdL D w xs l
/-- the blocks that the world itself writes -/
def Mine (p : Nat) (fa ra ga : Option Addr) (b : Nat) : Prop := b = p ∨ (Value.slice fa 0 0).ownBlock = some b ∨ (Value.slice ra 0 0).ownBlock = some b ∨ (Value.slice ga 0 0).ownBlock = some b
theorem ownB (a : Option Addr) (n c : Nat) : (Value.slice a n c).ownBlock = (Value.slice a 0 0).ownBlock := by cases a <;> rfl
theorem keep4' (w : World) (p i0 i1 i2 i3 : Nat) (u0 u1 u2 u3 : Value) : Keeps (fun b => b = p) w ((((w.setCell ⟨p, i0, none⟩ u0).setCell ⟨p, i1, none⟩ u1).setCell ⟨p, i2, none⟩ u2).setCell ⟨p, i3, none⟩ u3) :=
  Keeps.setCell (p := ⟨p, i3, none⟩) (Keeps.setCell (p := ⟨p, i2, none⟩) (Keeps.setCell (p := ⟨p, i1, none⟩) (Keeps.setCell (p := ⟨p, i0, none⟩) (Keeps.refl (fun b => b = p) w) (.inl rfl) _) (.inl rfl) _) (.inl rfl) _) (.inl rfl) _
structure WR (K D : Nat → Prop) (w : World) (p : Nat) (m : WM) (sa : Option Addr) (sc : Nat) (aa : Option Addr) (ac : Nat) (fa : Option Addr) (fc : Nat) (ra : Option Addr) (rc : Nat) (ga : Option Addr) (gc : Nat) : Prop where
  blk : Blk w p #[.slice sa m.s.bs.length sc, .int .i64 m.s.a, .int .u64 (m.s.l.k : Int), .int .i64 m.s.l.i, .int .i64 m.r.nx, .slice aa m.r.fs.length ac, .bool m.r.lk, .int .u64 (m.r.l.k : Int), .int .i64 m.r.l.i, .slice fa m.fs.length fc, .slice ra m.rp.length rc, .slice ga m.gt.length gc] 60
  sb : Bds (fun b => D b ∧ ¬ Mine p fa ra ga b) w (.slice sa m.s.bs.length sc) m.s.bs
  ah : Frs (fun b => D b ∧ ¬ Mine p fa ra ga b) w (.slice aa m.r.fs.length ac) m.r.fs
  fr : FrO (fun b => D b ∧ ¬ Mine p fa ra ga b) w (.slice fa m.fs.length fc) m.fs
  rp : RpO w (.slice ra m.rp.length rc) m.rp
  gt : BdO (fun b => D b ∧ ¬ Mine p fa ra ga b) w (.slice ga m.gt.length gc) m.gt
  d1 : ∀ b, (Value.slice fa 0 0).ownBlock = some b → b ≠ p ∧ (Value.slice ra 0 0).ownBlock ≠ some b ∧ (Value.slice ga 0 0).ownBlock ≠ some b
  d2 : ∀ b, (Value.slice ra 0 0).ownBlock = some b → b ≠ p ∧ (Value.slice ga 0 0).ownBlock ≠ some b
  d3 : ∀ b, (Value.slice ga 0 0).ownBlock = some b → b ≠ p
  k : ∀ b, Mine p fa ra ga b → K b
theorem own_ltx {S : Nat → Prop} {w : World} {e : TypeId} {size : Nat} {a : Option Addr} {n c k : Nat} {xs : List Value} (h : Own S w e size (.slice a n c) k xs) {b : Nat} (hb : (Value.slice a 0 0).ownBlock = some b) : b < w.heap.size :=
  (h.1.lt b (by rw [ownB]; exact hb)).2
section
variable {K D : Nat → Prop} {w : World} {p : Nat} {m : WM} {sa : Option Addr} {sc : Nat} {aa : Option Addr} {ac : Nat} {fa : Option Addr} {fc : Nat} {ra : Option Addr} {rc : Nat} {ga : Option Addr} {gc : Nat}
theorem WR.lt (h : WR K D w p m sa sc aa ac fa fc ra rc ga gc) : ∀ b, Mine p fa ra ga b → b < w.heap.size := by
  intro b hb
  obtain ⟨xf, hf, _⟩ := h.fr
  obtain ⟨xr, hr, _⟩ := h.rp
  obtain ⟨xg, hg, _⟩ := h.gt
  rcases hb with rfl | hb | hb | hb
  · exact blk_lt h.blk
  · exact own_ltx hf hb
  · exact own_ltx hr hb
  · exact own_ltx hg hb
/-- every row, where what changed is not its data -/
theorem WR.rows {S D2 : Nat → Prop} {w' : World} (h : WR K D w p m sa sc aa ac fa fc ra rc ga gc) (hk : Keeps S w w') (hS : ∀ b, b < w.heap.size → (D b ∧ ¬ Mine p fa ra ga b) → ¬ S b ∧ D2 b) :
    Bds D2 w' (.slice sa m.s.bs.length sc) m.s.bs ∧ Frs D2 w' (.slice aa m.r.fs.length ac) m.r.fs ∧
    ((∀ b, (Value.slice fa 0 0).ownBlock = some b → ¬ S b) → FrO D2 w' (.slice fa m.fs.length fc) m.fs) ∧
    ((∀ b, (Value.slice ra 0 0).ownBlock = some b → ¬ S b) → RpO w' (.slice ra m.rp.length rc) m.rp) ∧
    ((∀ b, (Value.slice ga 0 0).ownBlock = some b → ¬ S b) → BdO D2 w' (.slice ga m.gt.length gc) m.gt) := by
  have h1 : ∀ b, b < w.heap.size → (D b ∧ ¬ Mine p fa ra ga b) → (¬ S b ∧ D2 b) := fun b hb hd => hS b hb hd
  have h2 : ∀ b, b < w.heap.size → (¬ S b ∧ D2 b) → ¬ S b := fun b _ hd => hd.1
  have h3 : ∀ b, b < w'.heap.size → (¬ S b ∧ D2 b) → D2 b := fun b _ hd => hd.2
  refine ⟨((h.sb.mono h1).keep hk h2).mono h3, ((h.ah.mono h1).keep hk h2).mono h3, fun g => ?_, fun g => ?_, fun g => ?_⟩
  · obtain ⟨xs, g1, g2⟩ := h.fr
    exact ⟨xs, g1.keep hk (fun b _ hb => g b (by rw [ownB] at hb; exact hb)), ((g2.mono h1).keep hk h2).mono h3⟩
  · obtain ⟨xs, g1, g2⟩ := h.rp
    exact ⟨xs, g1.keep hk (fun b _ hb => g b (by rw [ownB] at hb; exact hb)), g2⟩
  · obtain ⟨xs, g1, g2⟩ := h.gt
    exact ⟨xs, g1.keep hk (fun b _ hb => g b (by rw [ownB] at hb; exact hb)), ((g2.mono h1).keep hk h2).mono h3⟩
theorem WR.keep {S : Nat → Prop} {w' : World} (h : WR K D w p m sa sc aa ac fa fc ra rc ga gc) (hk : Keeps S w w') (hS : ∀ b, b < w.heap.size → (K b ∨ D b) → ¬ S b) : WR K D w' p m sa sc aa ac fa fc ra rc ga gc := by
  have hm : ∀ b, Mine p fa ra ga b → ¬ S b := fun b hb => hS b (h.lt b hb) (.inl (h.k b hb))
  obtain ⟨r1, r2, r3, r4, r5⟩ := h.rows (D2 := fun b => D b ∧ ¬ Mine p fa ra ga b) hk (fun b hb hd => ⟨hS b hb (.inr hd.1), hd⟩)
  exact ⟨blk_keep h.blk hk (hm p (.inl rfl)), r1, r2, r3 (fun b hb => hm b (.inr (.inl hb))), r4 (fun b hb => hm b (.inr (.inr (.inl hb)))), r5 (fun b hb => hm b (.inr (.inr (.inr hb)))), h.d1, h.d2, h.d3, h.k⟩
theorem WR.mono {K' D' : Nat → Prop} (h : WR K D w p m sa sc aa ac fa fc ra rc ga gc) (h1 : ∀ b, b < w.heap.size → K b → K' b) (h2 : ∀ b, b < w.heap.size → D b → D' b) : WR K' D' w p m sa sc aa ac fa fc ra rc ga gc := by
  have hd : ∀ b, b < w.heap.size → (D b ∧ ¬ Mine p fa ra ga b) → (D' b ∧ ¬ Mine p fa ra ga b) := fun b hb h => ⟨h2 b hb h.1, h.2⟩
  refine ⟨h.blk, h.sb.mono hd, h.ah.mono hd, ?_, h.rp, ?_, h.d1, h.d2, h.d3, fun b hb => h1 b (h.lt b hb) (h.k b hb)⟩
  · obtain ⟨xs, g1, g2⟩ := h.fr
    exact ⟨xs, g1, g2.mono hd⟩
  · obtain ⟨xs, g1, g2⟩ := h.gt
    exact ⟨xs, g1, g2.mono hd⟩
end
end Go.Proofs.YthoikljmokkchaaDoor
namespace Go.Proofs.YthoikljmokkchaaDoor
open Go.RowKit
attribute [local go_sem ↓] Go.wp_at_zero Go.wp_at_succ
theorem bds_after {X w' : World} {n : Nat} {v : Value} {l : List (List Nat)} (h : Bds (fun b => X.heap.size ≤ b) w' v l) (hn : n ≤ X.heap.size) : ∀ Y, Keeps (fun b => n ≤ b ∧ b < X.heap.size) w' Y → Bds (fun b => n ≤ b) Y v l := fun Y hk =>
  (h.keep hk (fun b _ h1 h2 => by omega)).mono (fun b _ h => by omega)
end Go.Proofs.YthoikljmokkchaaDoor
namespace Go.Proofs.YthoikljmokkchaaDoor
open Go.RowKit
def EmitAll (w : World) (m : Fr × Sd × Int) (e : Ending) (w' : World) : Prop := ∃ a c a2 c2, e = .returned (.tuple #[.agg #[.int .i64 m.1.q, .int .i64 m.1.k, .bool m.1.u, .slice a m.1.b.length c, .int .u64 (m.1.t : Int)], .agg #[.slice a2 m.2.1.bs.length c2, .int .i64 m.2.1.a, .int .u64 (m.2.1.l.k : Int), .int .i64 m.2.1.l.i], .int .i64 m.2.2]) ∧
  Sl (fun b => w.heap.size ≤ b) w' (.slice a m.1.b.length c) (u8s m.1.b) ∧ Bds (fun b => w.heap.size ≤ b) w' (.slice a2 m.2.1.bs.length c2) m.2.1.bs ∧ Keeps (fun _ => False) w w'
theorem emit_err {w w' : World} {e : Ending} {er : Int} (h : e = .returned (.tuple #[.agg #[.int .i64 0, .int .i64 0, .bool false, .slice none 0 0, .int .u64 0], .agg #[.slice none 0 0, .int .i64 0, .int .u64 0, .int .i64 0], .int .i64 er]) ∧ Keeps (fun _ => False) w w') : EmitAll w (zFr, zSd, er) e w' :=
  ⟨none, 0, none, 0, h.1, Sl.nil _ _, Bds.nil _ _, h.2⟩
theorem Emit_all (s : Sd) (ba : Option Addr) (bc : Nat) (q : Int) (K : Nat → Prop) (w : World) (hv : Bds K w (.slice ba s.bs.length bc) s.bs) (hn : s.bs.length ≤ 100000) (hx : ∀ x ∈ s.bs, x.length ≤ 512 ∧ ∀ c ∈ x, c < 256) (hl : s.l.ok) (ha : 0 ≤ s.a) (ha2 : s.a ≤ 1000000000000) :
    Calls Tryd.prog 39 #[.agg #[.slice ba s.bs.length bc, .int .i64 s.a, .int .u64 (s.l.k : Int), .int .i64 s.l.i], .int .i64 q] w fun e w' => EmitAll w (emitM s q) e w' := by
  by_cases h0 : q < 0
  · rw [show emitM s q = (zFr, zSd, 5) by unfold emitM; rw [if_pos (.inl h0)]]
    exact (Emit_neg ba s.bs.length bc s.a s.l.k s.l.i q w (by omega) h0).mono (fun e w' h => emit_err h)
  · by_cases h1 : (s.bs.length : Int) ≤ q
    · rw [show emitM s q = (zFr, zSd, 5) by unfold emitM; rw [if_pos (.inr h1)]]
      exact (Emit_big ba s.bs.length bc s.a s.l.k s.l.i q w (by omega) (by omega) h1).mono (fun e w' h => emit_err h)
    · by_cases h2 : q < s.a
      · rw [show emitM s q = (zFr, zSd, 32) by unfold emitM; rw [if_neg (by omega), if_pos (.inl h2)]]
        exact (Emit_old ba s.bs.length bc s.a s.l.k s.l.i q w (by omega) (by omega) (by omega) h2).mono (fun e w' h => emit_err h)
      · by_cases h3 : s.a + 16 ≤ q
        · rw [show emitM s q = (zFr, zSd, 32) by unfold emitM; rw [if_neg (by omega), if_pos (.inr h3)]]
          exact (Emit_far ba s.bs.length bc s.a s.l.k s.l.i q w (by omega) (by omega) (by omega) (by omega) ha ha2 h3).mono (fun e w' h => emit_err h)
        · rw [show emitM s q = (signF s.l ⟨q, 0, false, s.bs.getD q.toNat [], 0⟩, ⟨s.bs, s.a, nextL s.l⟩, 0) by unfold emitM; rw [if_neg (by omega), if_neg (by omega)]]
          have h := Emit_ok s.bs (s.bs.getD q.toNat []) ba bc s.a s.l q.toNat K w hv hn hx hl (by rw [List.getD, List.getElem?_eq_getElem (by omega)]; rfl) ha (by omega) (by omega)
          rw [show ((q.toNat : Nat) : Int) = q by omega] at h
          exact h
def QueueAll (w : World) (m : Sd × Int) (e : Ending) (w' : World) : Prop := ∃ a2 c2, e = .returned (.tuple #[.agg #[.slice a2 m.1.bs.length c2, .int .i64 m.1.a, .int .u64 (m.1.l.k : Int), .int .i64 m.1.l.i], .int .i64 m.2]) ∧ Bds (fun b => w.heap.size ≤ b) w' (.slice a2 m.1.bs.length c2) m.1.bs ∧ Keeps (fun _ => False) w w'
theorem Queue_all (s : Sd) (ba : Option Addr) (bc : Nat) (body : List Nat) (a : Option Addr) (c : Nat) (K K2 : Nat → Prop) (w : World) (hv : Bds K w (.slice ba s.bs.length bc) s.bs) (hn : s.bs.length ≤ 100000) (hx : ∀ x ∈ s.bs, x.length ≤ 512) (hs : Sl K2 w (.slice a body.length c) (u8s body)) :
    Calls Tryd.prog 32 #[.agg #[.slice ba s.bs.length bc, .int .i64 s.a, .int .u64 (s.l.k : Int), .int .i64 s.l.i], .slice a body.length c] w fun e w' => QueueAll w (queueM s body) e w' := by
  unfold queueM
  by_cases h : 512 < body.length
  · rw [if_pos h]
    exact (Queue_no ba s.bs.length bc s.a s.l.k s.l.i body a c w h).mono (fun e w' h => ⟨none, 0, h.1, Bds.nil _ _, h.2⟩)
  · rw [if_neg h]
    refine (Queue_ok s.bs ba bc s.a s.l.k s.l.i body K K2 a c w hv hn hx (by omega) hs).mono (fun e w' h => ?_)
    obtain ⟨a2, c2, h1, h2, h3⟩ := h
    refine ⟨a2, c2, ?_, ?_, h3⟩
    · show e = .returned (.tuple #[.agg #[.slice a2 (s.bs ++ [body]).length c2, _, _, _], _])
      rw [List.length_append]; exact h1
    · show Bds _ w' (.slice a2 (s.bs ++ [body]).length c2) (s.bs ++ [body])
      rw [List.length_append]; exact h2
/-- bounds -/
structure WOk (m : WM) (n : Nat) : Prop where
  r : m.r.ok (5000 * (n : Int))
  f : ∀ x ∈ m.fs, x.ok
  b : ∀ x ∈ m.s.bs, ∀ c ∈ x, c < 256
  l : m.s.l.k < 18446744073709551616
theorem WOk.mono {m : WM} {n k : Nat} (h : WOk m n) (hk : n ≤ k) : WOk m k := ⟨h.r.mono (by omega), h.f, h.b, h.l⟩
end Go.Proofs.YthoikljmokkchaaDoor
