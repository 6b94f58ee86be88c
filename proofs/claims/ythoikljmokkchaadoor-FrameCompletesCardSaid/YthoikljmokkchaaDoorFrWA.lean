/- Frame: a sender, a receiver and what is on the way, in memory. -/
import Derived.Test.YthoikljmokkchaaDoorFrS
import Derived.Test.YthoikljmokkchaaDoorFrPE
namespace Go.Proofs.YthoikljmokkchaaDoor
open Go.RowKit
def RpCells (c : Nat → Value) (x : Rp) : Prop := c 0 = .int .i64 x.nx ∧ c 1 = .int .i64 x.ha ∧ c 2 = .int .i64 x.ky ∧ c 3 = .bool x.lk
def RpL (xs : List Value) (l : List Rp) : Prop := xs.length = l.length * 4 ∧ ∀ i x, l[i]? = some x → RpCells (fun j => xs.getD (i * 4 + j) undef) x
theorem RpL.nil : RpL [] [] := ⟨rfl, fun i x h => by simp at h⟩
theorem RpL.append {xs ys : List Value} {l m : List Rp} (h : RpL xs l) (h2 : RpL ys m) : RpL (xs ++ ys) (l ++ m) := by
  refine ⟨by rw [List.length_append, List.length_append, h.1, h2.1]; omega, fun i y hi => ?_⟩
  have cg : ∀ {c c' : Nat → Value}, RpCells c y → (∀ j, c' j = c j) → RpCells c' y := fun {c c'} hc e => by
    obtain ⟨h0, h1, h2, h3⟩ := hc
    exact ⟨(e 0).trans h0, (e 1).trans h1, (e 2).trans h2, (e 3).trans h3⟩
  rcases Nat.lt_or_ge i l.length with hl | hl
  · rw [List.getElem?_append_left hl] at hi
    have h3 := h.2 i y hi
    have key : ∀ j, j < 4 → (xs ++ ys).getD (i * 4 + j) undef = xs.getD (i * 4 + j) undef := fun j hj => by
      unfold List.getD
      rw [List.getElem?_append_left (by rw [h.1]; omega)]
    exact ⟨(key 0 (by omega)).trans h3.1, (key 1 (by omega)).trans h3.2.1, (key 2 (by omega)).trans h3.2.2.1, (key 3 (by omega)).trans h3.2.2.2⟩
  · rw [List.getElem?_append_right hl] at hi
    refine cg (h2.2 _ y hi) (fun j => ?_)
    unfold List.getD
    rw [List.getElem?_append_right (by rw [h.1]; omega), h.1]
    congr 2; omega
theorem RpL.one (x : Rp) : RpL [.int .i64 x.nx, .int .i64 x.ha, .int .i64 x.ky, .bool x.lk] [x] := by
  refine ⟨rfl, fun i y hi => ?_⟩
  match i, hi with
  | 0, hi => simp at hi; subst hi; exact ⟨rfl, rfl, rfl, rfl⟩
  | i + 1, hi => simp at hi
def RpO (w : World) (v : Value) (l : List Rp) : Prop := ∃ xs, Own (fun b => v.ownBlock = some b) w 50 4 v l.length xs ∧ RpL xs l
def FrO (D : Nat → Prop) (w : World) (v : Value) (l : List Fr) : Prop := ∃ xs, Own (fun b => v.ownBlock = some b) w 25 5 v l.length xs ∧ FrL D w xs l
def BdO (D : Nat → Prop) (w : World) (v : Value) (l : List (List Nat)) : Prop := ∃ xs, Own (fun b => v.ownBlock = some b) w 22 1 v l.length xs ∧ BdL D w xs l
/-- the blocks that the world itself writes -/
def Mine (p : Nat) (fa ra ga : Option Addr) (b : Nat) : Prop := b = p ∨ (Value.slice fa 0 0).ownBlock = some b ∨ (Value.slice ra 0 0).ownBlock = some b ∨ (Value.slice ga 0 0).ownBlock = some b
theorem ownB (a : Option Addr) (n c : Nat) : (Value.slice a n c).ownBlock = (Value.slice a 0 0).ownBlock := by cases a <;> rfl
theorem keep5' (w : World) (p i0 i1 i2 i3 i4 : Nat) (u0 u1 u2 u3 u4 : Value) : Keeps (fun b => b = p) w (((((w.setCell ⟨p, i0, none⟩ u0).setCell ⟨p, i1, none⟩ u1).setCell ⟨p, i2, none⟩ u2).setCell ⟨p, i3, none⟩ u3).setCell ⟨p, i4, none⟩ u4) :=
  Keeps.setCell (p := ⟨p, i4, none⟩) (Keeps.setCell (p := ⟨p, i3, none⟩) (Keeps.setCell (p := ⟨p, i2, none⟩) (Keeps.setCell (p := ⟨p, i1, none⟩) (Keeps.setCell (p := ⟨p, i0, none⟩) (Keeps.refl (fun b => b = p) w) (.inl rfl) _) (.inl rfl) _) (.inl rfl) _) (.inl rfl) _) (.inl rfl) _
theorem keep4' (w : World) (p i0 i1 i2 i3 : Nat) (u0 u1 u2 u3 : Value) : Keeps (fun b => b = p) w ((((w.setCell ⟨p, i0, none⟩ u0).setCell ⟨p, i1, none⟩ u1).setCell ⟨p, i2, none⟩ u2).setCell ⟨p, i3, none⟩ u3) :=
  Keeps.setCell (p := ⟨p, i3, none⟩) (Keeps.setCell (p := ⟨p, i2, none⟩) (Keeps.setCell (p := ⟨p, i1, none⟩) (Keeps.setCell (p := ⟨p, i0, none⟩) (Keeps.refl (fun b => b = p) w) (.inl rfl) _) (.inl rfl) _) (.inl rfl) _) (.inl rfl) _
structure WR (K D : Nat → Prop) (w : World) (p : Nat) (m : WM) (sa : Option Addr) (sc : Nat) (aa : Option Addr) (ac : Nat) (fa : Option Addr) (fc : Nat) (ra : Option Addr) (rc : Nat) (ga : Option Addr) (gc : Nat) : Prop where
  blk : Blk w p #[.slice sa m.s.bs.length sc, .int .i64 m.s.a, .int .u64 (m.s.l.k : Int), .int .i64 m.s.l.i, .int .i64 m.r.nx, .slice aa m.r.fs.length ac, .bool m.r.lk, .int .u64 (m.r.l.k : Int), .int .i64 m.r.l.i, .slice fa m.fs.length fc, .slice ra m.rp.length rc, .slice ga m.gt.length gc] 60
  sb : Bds (fun b => D b ∧ ¬ Mine p fa ra ga b) w (.slice sa m.s.bs.length sc) m.s.bs
  ah : Frs (fun b => D b ∧ ¬ Mine p fa ra ga b) w (.slice aa m.r.fs.length ac) m.r.fs
  fr : FrO (fun b => D b ∧ ¬ Mine p fa ra ga b) w (.slice fa m.fs.length fc) m.fs
  rp : RpO w (.slice ra m.rp.length rc) m.rp
  gt : BdO (fun b => D b ∧ ¬ Mine p fa ra ga b) w (.slice ga m.gt.length gc) m.gt
  d1 : ∀ b, (Value.slice fa 0 0).ownBlock = some b → b ≠ p ∧ (Value.slice ra 0 0).ownBlock ≠ some b ∧ (Value.slice ga 0 0).ownBlock ≠ some b
  d2 : ∀ b, (Value.slice ra 0 0).ownBlock = some b → b ≠ p ∧ (Value.slice ga 0 0).ownBlock ≠ some b
  d3 : ∀ b, (Value.slice ga 0 0).ownBlock = some b → b ≠ p
  k : ∀ b, Mine p fa ra ga b → K b
def WRx (K D : Nat → Prop) (w : World) (p : Nat) (m : WM) : Prop := ∃ sa sc aa ac fa fc ra rc ga gc, WR K D w p m sa sc aa ac fa fc ra rc ga gc
theorem own_ltx {S : Nat → Prop} {w : World} {e : TypeId} {size : Nat} {a : Option Addr} {n c k : Nat} {xs : List Value} (h : Own S w e size (.slice a n c) k xs) {b : Nat} (hb : (Value.slice a 0 0).ownBlock = some b) : b < w.heap.size :=
  (h.1.lt b (by rw [ownB]; exact hb)).2
section
variable {K D : Nat → Prop} {w : World} {p : Nat} {m : WM} {sa : Option Addr} {sc : Nat} {aa : Option Addr} {ac : Nat} {fa : Option Addr} {fc : Nat} {ra : Option Addr} {rc : Nat} {ga : Option Addr} {gc : Nat}
theorem WR.lt (h : WR K D w p m sa sc aa ac fa fc ra rc ga gc) : ∀ b, Mine p fa ra ga b → b < w.heap.size := by
  intro b hb
  obtain ⟨xf, hf, _⟩ := h.fr
  obtain ⟨xr, hr, _⟩ := h.rp
  obtain ⟨xg, hg, _⟩ := h.gt
  rcases hb with rfl | hb | hb | hb
  · exact blk_lt h.blk
  · exact own_ltx hf hb
  · exact own_ltx hr hb
  · exact own_ltx hg hb
/-- every row, where what changed is not its data -/
theorem WR.rows {S D2 : Nat → Prop} {w' : World} (h : WR K D w p m sa sc aa ac fa fc ra rc ga gc) (hk : Keeps S w w') (hS : ∀ b, b < w.heap.size → (D b ∧ ¬ Mine p fa ra ga b) → ¬ S b ∧ D2 b) :
    Bds D2 w' (.slice sa m.s.bs.length sc) m.s.bs ∧ Frs D2 w' (.slice aa m.r.fs.length ac) m.r.fs ∧
    ((∀ b, (Value.slice fa 0 0).ownBlock = some b → ¬ S b) → FrO D2 w' (.slice fa m.fs.length fc) m.fs) ∧
    ((∀ b, (Value.slice ra 0 0).ownBlock = some b → ¬ S b) → RpO w' (.slice ra m.rp.length rc) m.rp) ∧
    ((∀ b, (Value.slice ga 0 0).ownBlock = some b → ¬ S b) → BdO D2 w' (.slice ga m.gt.length gc) m.gt) := by
  have h1 : ∀ b, b < w.heap.size → (D b ∧ ¬ Mine p fa ra ga b) → (¬ S b ∧ D2 b) := fun b hb hd => hS b hb hd
  have h2 : ∀ b, b < w.heap.size → (¬ S b ∧ D2 b) → ¬ S b := fun b _ hd => hd.1
  have h3 : ∀ b, b < w'.heap.size → (¬ S b ∧ D2 b) → D2 b := fun b _ hd => hd.2
  refine ⟨((h.sb.mono h1).keep hk h2).mono h3, ((h.ah.mono h1).keep hk h2).mono h3, fun g => ?_, fun g => ?_, fun g => ?_⟩
  · obtain ⟨xs, g1, g2⟩ := h.fr
    exact ⟨xs, g1.keep hk (fun b _ hb => g b (by rw [ownB] at hb; exact hb)), ((g2.mono h1).keep hk h2).mono h3⟩
  · obtain ⟨xs, g1, g2⟩ := h.rp
    exact ⟨xs, g1.keep hk (fun b _ hb => g b (by rw [ownB] at hb; exact hb)), g2⟩
  · obtain ⟨xs, g1, g2⟩ := h.gt
    exact ⟨xs, g1.keep hk (fun b _ hb => g b (by rw [ownB] at hb; exact hb)), ((g2.mono h1).keep hk h2).mono h3⟩
theorem WR.keep {S : Nat → Prop} {w' : World} (h : WR K D w p m sa sc aa ac fa fc ra rc ga gc) (hk : Keeps S w w') (hS : ∀ b, b < w.heap.size → (K b ∨ D b) → ¬ S b) : WR K D w' p m sa sc aa ac fa fc ra rc ga gc := by
  have hm : ∀ b, Mine p fa ra ga b → ¬ S b := fun b hb => hS b (h.lt b hb) (.inl (h.k b hb))
  obtain ⟨r1, r2, r3, r4, r5⟩ := h.rows (D2 := fun b => D b ∧ ¬ Mine p fa ra ga b) hk (fun b hb hd => ⟨hS b hb (.inr hd.1), hd⟩)
  exact ⟨blk_keep h.blk hk (hm p (.inl rfl)), r1, r2, r3 (fun b hb => hm b (.inr (.inl hb))), r4 (fun b hb => hm b (.inr (.inr (.inl hb)))), r5 (fun b hb => hm b (.inr (.inr (.inr hb)))), h.d1, h.d2, h.d3, h.k⟩
theorem WR.mono {K' D' : Nat → Prop} (h : WR K D w p m sa sc aa ac fa fc ra rc ga gc) (h1 : ∀ b, b < w.heap.size → K b → K' b) (h2 : ∀ b, b < w.heap.size → D b → D' b) : WR K' D' w p m sa sc aa ac fa fc ra rc ga gc := by
  have hd : ∀ b, b < w.heap.size → (D b ∧ ¬ Mine p fa ra ga b) → (D' b ∧ ¬ Mine p fa ra ga b) := fun b hb h => ⟨h2 b hb h.1, h.2⟩
  refine ⟨h.blk, h.sb.mono hd, h.ah.mono hd, ?_, h.rp, ?_, h.d1, h.d2, h.d3, fun b hb => h1 b (h.lt b hb) (h.k b hb)⟩
  · obtain ⟨xs, g1, g2⟩ := h.fr
    exact ⟨xs, g1, g2.mono hd⟩
  · obtain ⟨xs, g1, g2⟩ := h.gt
    exact ⟨xs, g1, g2.mono hd⟩
theorem WR.setR (h : WR K D w p m sa sc aa ac fa fc ra rc ga gc) {r : Rv} {aa2 : Option Addr} {ac2 : Nat} (hf : Frs (fun b => D b ∧ ¬ Mine p fa ra ga b) w (.slice aa2 r.fs.length ac2) r.fs) :
    WR K D (((((w.setCell ⟨p, 4, none⟩ (.int .i64 r.nx)).setCell ⟨p, 5, none⟩ (.slice aa2 r.fs.length ac2)).setCell ⟨p, 6, none⟩ (.bool r.lk)).setCell ⟨p, 7, none⟩ (.int .u64 (r.l.k : Int))).setCell ⟨p, 8, none⟩ (.int .i64 r.l.i)) p ⟨m.s, r, m.fs, m.rp, m.gt⟩ sa sc aa2 ac2 fa fc ra rc ga gc := by
  have hk := keep5' w p 4 5 6 7 8 (.int .i64 r.nx) (.slice aa2 r.fs.length ac2) (.bool r.lk) (.int .u64 (r.l.k : Int)) (.int .i64 r.l.i)
  have hS : ∀ b, b < w.heap.size → (D b ∧ ¬ Mine p fa ra ga b) → ¬ b = p := fun b _ hd e => hd.2 (.inl e)
  obtain ⟨r1, r2, r3, r4, r5⟩ := h.rows (D2 := fun b => D b ∧ ¬ Mine p fa ra ga b) hk (fun b hb hd => ⟨hS b hb hd, hd⟩)
  exact ⟨blk_set (blk_set (blk_set (blk_set (blk_set h.blk 4 _) 5 _) 6 _) 7 _) 8 _, r1, hf.keep hk hS, r3 (fun b hb => (h.d1 b hb).1), r4 (fun b hb => (h.d2 b hb).1), r5 (fun b hb => h.d3 b hb), h.d1, h.d2, h.d3, h.k⟩
theorem WR.setS (h : WR K D w p m sa sc aa ac fa fc ra rc ga gc) {s : Sd} {sa2 : Option Addr} {sc2 : Nat} (hf : Bds (fun b => D b ∧ ¬ Mine p fa ra ga b) w (.slice sa2 s.bs.length sc2) s.bs) :
    WR K D ((((w.setCell ⟨p, 0, none⟩ (.slice sa2 s.bs.length sc2)).setCell ⟨p, 1, none⟩ (.int .i64 s.a)).setCell ⟨p, 2, none⟩ (.int .u64 (s.l.k : Int))).setCell ⟨p, 3, none⟩ (.int .i64 s.l.i)) p ⟨s, m.r, m.fs, m.rp, m.gt⟩ sa2 sc2 aa ac fa fc ra rc ga gc := by
  have hk := keep4' w p 0 1 2 3 (.slice sa2 s.bs.length sc2) (.int .i64 s.a) (.int .u64 (s.l.k : Int)) (.int .i64 s.l.i)
  have hS : ∀ b, b < w.heap.size → (D b ∧ ¬ Mine p fa ra ga b) → ¬ b = p := fun b _ hd e => hd.2 (.inl e)
  obtain ⟨r1, r2, r3, r4, r5⟩ := h.rows (D2 := fun b => D b ∧ ¬ Mine p fa ra ga b) hk (fun b hb hd => ⟨hS b hb hd, hd⟩)
  exact ⟨blk_set (blk_set (blk_set (blk_set h.blk 0 _) 1 _) 2 _) 3 _, hf.keep hk hS, r2, r3 (fun b hb => (h.d1 b hb).1), r4 (fun b hb => (h.d2 b hb).1), r5 (fun b hb => h.d3 b hb), h.d1, h.d2, h.d3, h.k⟩
theorem WR.gotApp (h : WR K D w p m sa sc aa ac fa fc ra rc ga gc) (hK : ∀ b, w.heap.size ≤ b → K b) {xs : List Value} (hc : BdL (fun b => D b ∧ ¬ Mine p fa ra ga b) w xs m.gt) {ys : List Value} {ds : List (List Nat)} (hs : BdL (fun b => D b ∧ ¬ Mine p fa ra ga b) w ys ds) {w7 : World} {a7 : Option Addr} {c7 : Nat}
    (h7 : Own (fun k => (Value.slice ga m.gt.length gc).ownBlock = some k ∨ w.heap.size ≤ k) w7 22 1 (.slice a7 (m.gt.length + ds.length) c7) (m.gt.length + ds.length) (xs ++ ys)) (hk7 : Keeps (fun b => (Value.slice ga m.gt.length gc).ownBlock = some b) w w7) :
    WR K D (w7.setCell ⟨p, 11, none⟩ (.slice a7 (m.gt.length + ds.length) c7)) p ⟨m.s, m.r, m.fs, m.rp, m.gt ++ ds⟩ sa sc aa ac fa fc ra rc a7 c7 := by
  have hp := blk_lt h.blk
  simp only [ownB] at hk7
  have h7' : ∀ b, (Value.slice a7 0 0).ownBlock = some b → (Value.slice ga 0 0).ownBlock = some b ∨ w.heap.size ≤ b := fun b hb => by
    have := h7.2 b (by rw [ownB]; exact hb)
    simp only [ownB] at this; exact this
  have g7p : ∀ b, (Value.slice a7 0 0).ownBlock = some b → b ≠ p := fun b hb e => by
    rcases h7' b hb with h' | h'
    · exact h.d3 b h' e
    · omega
  have hk : Keeps (fun b => b = p ∨ (Value.slice ga 0 0).ownBlock = some b) w (w7.setCell ⟨p, 11, none⟩ (.slice a7 (m.gt.length + ds.length) c7)) :=
    (hk7.mono (T := fun b => b = p ∨ (Value.slice ga 0 0).ownBlock = some b) (fun b _ hb => .inr hb)).setCell (.inl (.inl rfl)) _
  have hS : ∀ b, b < w.heap.size → (D b ∧ ¬ Mine p fa ra ga b) → ¬ (b = p ∨ (Value.slice ga 0 0).ownBlock = some b) := fun b _ hd e => hd.2 (by rcases e with e | e; exact .inl e; exact .inr (.inr (.inr e)))
  have hM : ∀ b, b < w.heap.size → (D b ∧ ¬ Mine p fa ra ga b) → (D b ∧ ¬ Mine p fa ra a7 b) := fun b hb hd => ⟨hd.1, fun e => hd.2 (by
    rcases e with e | e | e | e
    · exact .inl e
    · exact .inr (.inl e)
    · exact .inr (.inr (.inl e))
    · rcases h7' b e with h | h
      · exact .inr (.inr (.inr h))
      · omega)⟩
  have kS : Keeps (fun b => b = p) w7 (w7.setCell ⟨p, 11, none⟩ (.slice a7 (m.gt.length + ds.length) c7)) := keeps_set _ _ _ _ rfl
  obtain ⟨r1, r2, r3, r4, -⟩ := h.rows (D2 := fun b => D b ∧ ¬ Mine p fa ra a7 b) hk (fun b hb hd => ⟨hS b hb hd, hM b hb hd⟩)
  have hkd : ∀ b, b < w.heap.size → (D b ∧ ¬ Mine p fa ra ga b) → ((D b ∧ ¬ Mine p fa ra a7 b) ∧ ¬ (b = p ∨ (Value.slice ga 0 0).ownBlock = some b)) := fun b hb hd => ⟨hM b hb hd, hS b hb hd⟩
  refine ⟨?_, r1, r2, r3 (fun b hb e => ?_), r4 (fun b hb e => ?_), ?_, fun b hb => ?_, fun b hb => ?_, g7p, fun b hb => ?_⟩
  · have h8 := blk_set (blk_keep h.blk hk7 (fun e => h.d3 p e rfl)) 11 (.slice a7 (m.gt.length + ds.length) c7)
    show Blk _ p #[_, _, _, _, _, _, _, _, _, _, _, .slice a7 (m.gt ++ ds).length c7] _
    rw [List.length_append]
    exact h8
  · rcases e with e | e
    · exact (h.d1 b hb).1 e
    · exact (h.d1 b hb).2.2 e
  · rcases e with e | e
    · exact (h.d2 b hb).1 e
    · exact (h.d2 b hb).2 e
  · show BdO _ _ (.slice a7 (m.gt ++ ds).length c7) (m.gt ++ ds)
    refine ⟨xs ++ ys, ?_, (((hc.append hs).mono hkd).keep hk (fun b _ hd => hd.2)).mono (fun b _ hd => hd.1)⟩
    rw [List.length_append]
    exact ⟨(h7.keep kS (fun b hb hq e => by
      rcases hq with hq | hq
      · rw [ownB] at hq; exact h.d3 b hq e
      · omega)).1, fun _ h => h⟩
  · obtain ⟨e1, e2, e3⟩ := h.d1 b hb
    refine ⟨e1, e2, fun e => ?_⟩
    rcases h7' b e with h' | h'
    · exact e3 h'
    · have := h.lt b (.inr (.inl hb)); omega
  · obtain ⟨e1, e3⟩ := h.d2 b hb
    refine ⟨e1, fun e => ?_⟩
    rcases h7' b e with h' | h'
    · exact e3 h'
    · have := h.lt b (.inr (.inr (.inl hb))); omega
  · rcases hb with hb | hb | hb | hb
    · exact h.k b (.inl hb)
    · exact h.k b (.inr (.inl hb))
    · exact h.k b (.inr (.inr (.inl hb)))
    · rcases h7' b hb with h' | h'
      · exact h.k b (.inr (.inr (.inr h')))
      · exact hK b h'
theorem WR.frApp (h : WR K D w p m sa sc aa ac fa fc ra rc ga gc) (hK : ∀ b, w.heap.size ≤ b → K b) {xs : List Value} (hc : FrL (fun b => D b ∧ ¬ Mine p fa ra ga b) w xs m.fs) {ys : List Value} {ds : List Fr} (hs : FrL (fun b => D b ∧ ¬ Mine p fa ra ga b) w ys ds) {w7 : World} {a7 : Option Addr} {c7 : Nat}
    (h7 : Own (fun k => (Value.slice fa m.fs.length fc).ownBlock = some k ∨ w.heap.size ≤ k) w7 25 5 (.slice a7 (m.fs.length + ds.length) c7) (m.fs.length + ds.length) (xs ++ ys)) (hk7 : Keeps (fun b => (Value.slice fa m.fs.length fc).ownBlock = some b) w w7) :
    WR K D (w7.setCell ⟨p, 9, none⟩ (.slice a7 (m.fs.length + ds.length) c7)) p ⟨m.s, m.r, m.fs ++ ds, m.rp, m.gt⟩ sa sc aa ac a7 c7 ra rc ga gc := by
  have hp := blk_lt h.blk
  simp only [ownB] at hk7
  have h7' : ∀ b, (Value.slice a7 0 0).ownBlock = some b → (Value.slice fa 0 0).ownBlock = some b ∨ w.heap.size ≤ b := fun b hb => by
    have := h7.2 b (by rw [ownB]; exact hb)
    simp only [ownB] at this; exact this
  have g7p : ∀ b, (Value.slice a7 0 0).ownBlock = some b → b ≠ p := fun b hb e => by
    rcases h7' b hb with h' | h'
    · exact (h.d1 b h').1 e
    · omega
  have hk : Keeps (fun b => b = p ∨ (Value.slice fa 0 0).ownBlock = some b) w (w7.setCell ⟨p, 9, none⟩ (.slice a7 (m.fs.length + ds.length) c7)) :=
    (hk7.mono (T := fun b => b = p ∨ (Value.slice fa 0 0).ownBlock = some b) (fun b _ hb => .inr hb)).setCell (.inl (.inl rfl)) _
  have hS : ∀ b, b < w.heap.size → (D b ∧ ¬ Mine p fa ra ga b) → ¬ (b = p ∨ (Value.slice fa 0 0).ownBlock = some b) := fun b _ hd e => hd.2 (by rcases e with e | e; exact .inl e; exact .inr (.inl e))
  have hM : ∀ b, b < w.heap.size → (D b ∧ ¬ Mine p fa ra ga b) → (D b ∧ ¬ Mine p a7 ra ga b) := fun b hb hd => ⟨hd.1, fun e => hd.2 (by
    rcases e with e | e | e | e
    · exact .inl e
    · rcases h7' b e with h' | h'
      · exact .inr (.inl h')
      · omega
    · exact .inr (.inr (.inl e))
    · exact .inr (.inr (.inr e)))⟩
  have kS : Keeps (fun b => b = p) w7 (w7.setCell ⟨p, 9, none⟩ (.slice a7 (m.fs.length + ds.length) c7)) := keeps_set _ _ _ _ rfl
  obtain ⟨r1, r2, -, r4, r5⟩ := h.rows (D2 := fun b => D b ∧ ¬ Mine p a7 ra ga b) hk (fun b hb hd => ⟨hS b hb hd, hM b hb hd⟩)
  have hkd : ∀ b, b < w.heap.size → (D b ∧ ¬ Mine p fa ra ga b) → ((D b ∧ ¬ Mine p a7 ra ga b) ∧ ¬ (b = p ∨ (Value.slice fa 0 0).ownBlock = some b)) := fun b hb hd => ⟨hM b hb hd, hS b hb hd⟩
  refine ⟨?_, r1, r2, ?_, r4 (fun b hb e => ?_), r5 (fun b hb e => ?_), fun b hb => ?_, h.d2, h.d3, fun b hb => ?_⟩
  · have h8 := blk_set (blk_keep h.blk hk7 (fun e => (h.d1 p e).1 rfl)) 9 (.slice a7 (m.fs.length + ds.length) c7)
    show Blk _ p #[_, _, _, _, _, _, _, _, _, .slice a7 (m.fs ++ ds).length c7, _, _] _
    rw [List.length_append]
    exact h8
  · show FrO _ _ (.slice a7 (m.fs ++ ds).length c7) (m.fs ++ ds)
    refine ⟨xs ++ ys, ?_, (((hc.append hs).mono hkd).keep hk (fun b _ hd => hd.2)).mono (fun b _ hd => hd.1)⟩
    rw [List.length_append]
    exact ⟨(h7.keep kS (fun b hb hq e => by
      rcases hq with hq | hq
      · rw [ownB] at hq; exact (h.d1 b hq).1 e
      · omega)).1, fun _ h => h⟩
  · rcases e with e | e
    · exact (h.d2 b hb).1 e
    · exact (h.d1 b e).2.1 hb
  · rcases e with e | e
    · exact h.d3 b hb e
    · exact (h.d1 b e).2.2 hb
  · rcases h7' b hb with h' | h'
    · exact h.d1 b h'
    · exact ⟨g7p b hb, fun e => by have := h.lt b (.inr (.inr (.inl e))); omega, fun e => by have := h.lt b (.inr (.inr (.inr e))); omega⟩
  · rcases hb with hb | hb | hb | hb
    · exact h.k b (.inl hb)
    · rcases h7' b hb with h' | h'
      · exact h.k b (.inr (.inl h'))
      · exact hK b h'
    · exact h.k b (.inr (.inr (.inl hb)))
    · exact h.k b (.inr (.inr (.inr hb)))
theorem WR.rpApp (h : WR K D w p m sa sc aa ac fa fc ra rc ga gc) (hK : ∀ b, w.heap.size ≤ b → K b) {xs : List Value} (hc : RpL xs m.rp) {ys : List Value} {ds : List Rp} (hs : RpL ys ds) {w7 : World} {a7 : Option Addr} {c7 : Nat}
    (h7 : Own (fun k => (Value.slice ra m.rp.length rc).ownBlock = some k ∨ w.heap.size ≤ k) w7 50 4 (.slice a7 (m.rp.length + ds.length) c7) (m.rp.length + ds.length) (xs ++ ys)) (hk7 : Keeps (fun b => (Value.slice ra m.rp.length rc).ownBlock = some b) w w7) :
    WR K D (w7.setCell ⟨p, 10, none⟩ (.slice a7 (m.rp.length + ds.length) c7)) p ⟨m.s, m.r, m.fs, m.rp ++ ds, m.gt⟩ sa sc aa ac fa fc a7 c7 ga gc := by
  have hp := blk_lt h.blk
  simp only [ownB] at hk7
  have h7' : ∀ b, (Value.slice a7 0 0).ownBlock = some b → (Value.slice ra 0 0).ownBlock = some b ∨ w.heap.size ≤ b := fun b hb => by
    have := h7.2 b (by rw [ownB]; exact hb)
    simp only [ownB] at this; exact this
  have g7p : ∀ b, (Value.slice a7 0 0).ownBlock = some b → b ≠ p := fun b hb e => by
    rcases h7' b hb with h' | h'
    · exact (h.d2 b h').1 e
    · omega
  have hk : Keeps (fun b => b = p ∨ (Value.slice ra 0 0).ownBlock = some b) w (w7.setCell ⟨p, 10, none⟩ (.slice a7 (m.rp.length + ds.length) c7)) :=
    (hk7.mono (T := fun b => b = p ∨ (Value.slice ra 0 0).ownBlock = some b) (fun b _ hb => .inr hb)).setCell (.inl (.inl rfl)) _
  have hS : ∀ b, b < w.heap.size → (D b ∧ ¬ Mine p fa ra ga b) → ¬ (b = p ∨ (Value.slice ra 0 0).ownBlock = some b) := fun b _ hd e => hd.2 (by rcases e with e | e; exact .inl e; exact .inr (.inr (.inl e)))
  have hM : ∀ b, b < w.heap.size → (D b ∧ ¬ Mine p fa ra ga b) → (D b ∧ ¬ Mine p fa a7 ga b) := fun b hb hd => ⟨hd.1, fun e => hd.2 (by
    rcases e with e | e | e | e
    · exact .inl e
    · exact .inr (.inl e)
    · rcases h7' b e with h' | h'
      · exact .inr (.inr (.inl h'))
      · omega
    · exact .inr (.inr (.inr e)))⟩
  have kS : Keeps (fun b => b = p) w7 (w7.setCell ⟨p, 10, none⟩ (.slice a7 (m.rp.length + ds.length) c7)) := keeps_set _ _ _ _ rfl
  obtain ⟨r1, r2, r3, -, r5⟩ := h.rows (D2 := fun b => D b ∧ ¬ Mine p fa a7 ga b) hk (fun b hb hd => ⟨hS b hb hd, hM b hb hd⟩)
  refine ⟨?_, r1, r2, r3 (fun b hb e => ?_), ?_, r5 (fun b hb e => ?_), fun b hb => ?_, fun b hb => ?_, h.d3, fun b hb => ?_⟩
  · have h8 := blk_set (blk_keep h.blk hk7 (fun e => (h.d2 p e).1 rfl)) 10 (.slice a7 (m.rp.length + ds.length) c7)
    show Blk _ p #[_, _, _, _, _, _, _, _, _, _, .slice a7 (m.rp ++ ds).length c7, _] _
    rw [List.length_append]
    exact h8
  · rcases e with e | e
    · exact (h.d1 b hb).1 e
    · exact (h.d1 b hb).2.1 e
  · show RpO _ (.slice a7 (m.rp ++ ds).length c7) (m.rp ++ ds)
    refine ⟨xs ++ ys, ?_, hc.append hs⟩
    rw [List.length_append]
    exact ⟨(h7.keep kS (fun b hb hq e => by
      rcases hq with hq | hq
      · rw [ownB] at hq; exact (h.d2 b hq).1 e
      · omega)).1, fun _ h => h⟩
  · rcases e with e | e
    · exact h.d3 b hb e
    · exact (h.d2 b e).2 hb
  · obtain ⟨e1, e2, e3⟩ := h.d1 b hb
    refine ⟨e1, fun e => ?_, e3⟩
    rcases h7' b e with h' | h'
    · exact e2 h'
    · have := h.lt b (.inr (.inl hb)); omega
  · rcases h7' b hb with h' | h'
    · exact h.d2 b h'
    · exact ⟨g7p b hb, fun e => by have := h.lt b (.inr (.inr (.inr e))); omega⟩
  · rcases hb with hb | hb | hb | hb
    · exact h.k b (.inl hb)
    · exact h.k b (.inr (.inl hb))
    · rcases h7' b hb with h' | h'
      · exact h.k b (.inr (.inr (.inl h')))
      · exact hK b h'
    · exact h.k b (.inr (.inr (.inr hb)))
end
end Go.Proofs.YthoikljmokkchaaDoor
