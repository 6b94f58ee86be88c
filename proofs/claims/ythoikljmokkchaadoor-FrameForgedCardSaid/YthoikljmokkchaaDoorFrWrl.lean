/- Frames: FrWA, FrWB, FrWC: walks and plain facts. -/
import Derived.Test.YthoikljmokkchaaDoorFrS
import Derived.Test.YthoikljmokkchaaDoorFrHist
import Derived.Deep.DrawnRows
import Derived.Test.YthoikljmokkchaaDoorFrMid
namespace Go.Proofs.YthoikljmokkchaaDoor
open Go.RowKit
def RpCells (c : Nat → Value) (x : Rp) : Prop := c 0 = .int .i64 x.nx ∧ c 1 = .int .i64 x.ha ∧ c 2 = .int .i64 x.ky ∧ c 3 = .bool x.lk
def RpL (xs : List Value) (l : List Rp) : Prop := xs.length = l.length * 4 ∧ ∀ i x, l[i]? = some x → RpCells (fun j => xs.getD (i * 4 + j) undef) x
theorem RpL.nil : RpL [] [] := ⟨rfl, fun i x h => by simp at h⟩
theorem RpL.append {xs ys : List Value} {l m : List Rp} (h : RpL xs l) (h2 : RpL ys m) : RpL (xs ++ ys) (l ++ m) := by
  refine ⟨by rw [List.length_append, List.length_append, h.1, h2.1]; omega, fun i y hi => ?_⟩
  have cg : ∀ {c c' : Nat → Value}, RpCells c y → (∀ j, c' j = c j) → RpCells c' y := fun {c c'} hc e => by
    obtain ⟨h0, h1, h2, h3⟩ := hc
    exact ⟨(e 0).trans h0, (e 1).trans h1, (e 2).trans h2, (e 3).trans h3⟩
  rcases Nat.lt_or_ge i l.length with hl | hl
  · rw [List.getElem?_append_left hl] at hi
    have h3 := h.2 i y hi
    have key : ∀ j, j < 4 → (xs ++ ys).getD (i * 4 + j) undef = xs.getD (i * 4 + j) undef := fun j hj => by
      unfold List.getD
      rw [List.getElem?_append_left (by rw [h.1]; omega)]
    exact ⟨(key 0 (by omega)).trans h3.1, (key 1 (by omega)).trans h3.2.1, (key 2 (by omega)).trans h3.2.2.1, (key 3 (by omega)).trans h3.2.2.2⟩
  · rw [List.getElem?_append_right hl] at hi
    refine cg (h2.2 _ y hi) (fun j => ?_)
    unfold List.getD
    rw [List.getElem?_append_right (by rw [h.1]; omega), h.1]
    congr 2; omega
theorem RpL.one (x : Rp) : RpL [.int .i64 x.nx, .int .i64 x.ha, .int .i64 x.ky, .bool x.lk] [x] := by
  refine ⟨rfl, fun i y hi => ?_⟩
  match i, hi with
  | 0, hi => simp at hi; subst hi; exact ⟨rfl, rfl, rfl, rfl⟩
  | i + 1, hi => simp at hi
def RpO (w : World) (v : Value) (l : List Rp) : Prop := ∃ xs, Own (fun b => v.ownBlock = some b) w 50 4 v l.length xs ∧ RpL xs l
def FrO (D : Nat → Prop) (w : World) (v : Value) (l : List Fr) : Prop := ∃ xs, Own (fun b => v.ownBlock = some b) w 25 5 v l.length xs ∧ FrL D w xs l
def BdO (D : Nat → Prop) (w : World) (v : Value) (l : List (List Nat)) : Prop := ∃ xs, Own (fun b => v.ownBlock = some b) w 22 1 v l.length xs ∧ BdL D w xs l
/-- the blocks that the world itself writes -/
def Mine (p : Nat) (fa ra ga : Option Addr) (b : Nat) : Prop := b = p ∨ (Value.slice fa 0 0).ownBlock = some b ∨ (Value.slice ra 0 0).ownBlock = some b ∨ (Value.slice ga 0 0).ownBlock = some b
theorem ownB (a : Option Addr) (n c : Nat) : (Value.slice a n c).ownBlock = (Value.slice a 0 0).ownBlock := by cases a <;> rfl
theorem keep5' (w : World) (p i0 i1 i2 i3 i4 : Nat) (u0 u1 u2 u3 u4 : Value) : Keeps (fun b => b = p) w (((((w.setCell ⟨p, i0, none⟩ u0).setCell ⟨p, i1, none⟩ u1).setCell ⟨p, i2, none⟩ u2).setCell ⟨p, i3, none⟩ u3).setCell ⟨p, i4, none⟩ u4) :=
  Keeps.setCell (p := ⟨p, i4, none⟩) (Keeps.setCell (p := ⟨p, i3, none⟩) (Keeps.setCell (p := ⟨p, i2, none⟩) (Keeps.setCell (p := ⟨p, i1, none⟩) (Keeps.setCell (p := ⟨p, i0, none⟩) (Keeps.refl (fun b => b = p) w) (.inl rfl) _) (.inl rfl) _) (.inl rfl) _) (.inl rfl) _) (.inl rfl) _
theorem keep4' (w : World) (p i0 i1 i2 i3 : Nat) (u0 u1 u2 u3 : Value) : Keeps (fun b => b = p) w ((((w.setCell ⟨p, i0, none⟩ u0).setCell ⟨p, i1, none⟩ u1).setCell ⟨p, i2, none⟩ u2).setCell ⟨p, i3, none⟩ u3) :=
  Keeps.setCell (p := ⟨p, i3, none⟩) (Keeps.setCell (p := ⟨p, i2, none⟩) (Keeps.setCell (p := ⟨p, i1, none⟩) (Keeps.setCell (p := ⟨p, i0, none⟩) (Keeps.refl (fun b => b = p) w) (.inl rfl) _) (.inl rfl) _) (.inl rfl) _) (.inl rfl) _
structure WR (K D : Nat → Prop) (w : World) (p : Nat) (m : WM) (sa : Option Addr) (sc : Nat) (aa : Option Addr) (ac : Nat) (fa : Option Addr) (fc : Nat) (ra : Option Addr) (rc : Nat) (ga : Option Addr) (gc : Nat) : Prop where
  blk : Blk w p #[.slice sa m.s.bs.length sc, .int .i64 m.s.a, .int .u64 (m.s.l.k : Int), .int .i64 m.s.l.i, .int .i64 m.r.nx, .slice aa m.r.fs.length ac, .bool m.r.lk, .int .u64 (m.r.l.k : Int), .int .i64 m.r.l.i, .slice fa m.fs.length fc, .slice ra m.rp.length rc, .slice ga m.gt.length gc] 60
  sb : Bds (fun b => D b ∧ ¬ Mine p fa ra ga b) w (.slice sa m.s.bs.length sc) m.s.bs
  ah : Frs (fun b => D b ∧ ¬ Mine p fa ra ga b) w (.slice aa m.r.fs.length ac) m.r.fs
  fr : FrO (fun b => D b ∧ ¬ Mine p fa ra ga b) w (.slice fa m.fs.length fc) m.fs
  rp : RpO w (.slice ra m.rp.length rc) m.rp
  gt : BdO (fun b => D b ∧ ¬ Mine p fa ra ga b) w (.slice ga m.gt.length gc) m.gt
  d1 : ∀ b, (Value.slice fa 0 0).ownBlock = some b → b ≠ p ∧ (Value.slice ra 0 0).ownBlock ≠ some b ∧ (Value.slice ga 0 0).ownBlock ≠ some b
  d2 : ∀ b, (Value.slice ra 0 0).ownBlock = some b → b ≠ p ∧ (Value.slice ga 0 0).ownBlock ≠ some b
  d3 : ∀ b, (Value.slice ga 0 0).ownBlock = some b → b ≠ p
  k : ∀ b, Mine p fa ra ga b → K b
def WRx (K D : Nat → Prop) (w : World) (p : Nat) (m : WM) : Prop := ∃ sa sc aa ac fa fc ra rc ga gc, WR K D w p m sa sc aa ac fa fc ra rc ga gc
theorem own_ltx {S : Nat → Prop} {w : World} {e : TypeId} {size : Nat} {a : Option Addr} {n c k : Nat} {xs : List Value} (h : Own S w e size (.slice a n c) k xs) {b : Nat} (hb : (Value.slice a 0 0).ownBlock = some b) : b < w.heap.size :=
  (h.1.lt b (by rw [ownB]; exact hb)).2
section
variable {K D : Nat → Prop} {w : World} {p : Nat} {m : WM} {sa : Option Addr} {sc : Nat} {aa : Option Addr} {ac : Nat} {fa : Option Addr} {fc : Nat} {ra : Option Addr} {rc : Nat} {ga : Option Addr} {gc : Nat}
theorem WR.lt (h : WR K D w p m sa sc aa ac fa fc ra rc ga gc) : ∀ b, Mine p fa ra ga b → b < w.heap.size := by
  intro b hb
  obtain ⟨xf, hf, _⟩ := h.fr
  obtain ⟨xr, hr, _⟩ := h.rp
  obtain ⟨xg, hg, _⟩ := h.gt
  rcases hb with rfl | hb | hb | hb
  · exact blk_lt h.blk
  · exact own_ltx hf hb
  · exact own_ltx hr hb
  · exact own_ltx hg hb
/-- every row, where what changed is not its data -/
theorem WR.rows {S D2 : Nat → Prop} {w' : World} (h : WR K D w p m sa sc aa ac fa fc ra rc ga gc) (hk : Keeps S w w') (hS : ∀ b, b < w.heap.size → (D b ∧ ¬ Mine p fa ra ga b) → ¬ S b ∧ D2 b) :
    Bds D2 w' (.slice sa m.s.bs.length sc) m.s.bs ∧ Frs D2 w' (.slice aa m.r.fs.length ac) m.r.fs ∧
    ((∀ b, (Value.slice fa 0 0).ownBlock = some b → ¬ S b) → FrO D2 w' (.slice fa m.fs.length fc) m.fs) ∧
    ((∀ b, (Value.slice ra 0 0).ownBlock = some b → ¬ S b) → RpO w' (.slice ra m.rp.length rc) m.rp) ∧
    ((∀ b, (Value.slice ga 0 0).ownBlock = some b → ¬ S b) → BdO D2 w' (.slice ga m.gt.length gc) m.gt) := by
  have h1 : ∀ b, b < w.heap.size → (D b ∧ ¬ Mine p fa ra ga b) → (¬ S b ∧ D2 b) := fun b hb hd => hS b hb hd
  have h2 : ∀ b, b < w.heap.size → (¬ S b ∧ D2 b) → ¬ S b := fun b _ hd => hd.1
  have h3 : ∀ b, b < w'.heap.size → (¬ S b ∧ D2 b) → D2 b := fun b _ hd => hd.2
  refine ⟨((h.sb.mono h1).keep hk h2).mono h3, ((h.ah.mono h1).keep hk h2).mono h3, fun g => ?_, fun g => ?_, fun g => ?_⟩
  · obtain ⟨xs, g1, g2⟩ := h.fr
    exact ⟨xs, g1.keep hk (fun b _ hb => g b (by rw [ownB] at hb; exact hb)), ((g2.mono h1).keep hk h2).mono h3⟩
  · obtain ⟨xs, g1, g2⟩ := h.rp
    exact ⟨xs, g1.keep hk (fun b _ hb => g b (by rw [ownB] at hb; exact hb)), g2⟩
  · obtain ⟨xs, g1, g2⟩ := h.gt
    exact ⟨xs, g1.keep hk (fun b _ hb => g b (by rw [ownB] at hb; exact hb)), ((g2.mono h1).keep hk h2).mono h3⟩
theorem WR.keep {S : Nat → Prop} {w' : World} (h : WR K D w p m sa sc aa ac fa fc ra rc ga gc) (hk : Keeps S w w') (hS : ∀ b, b < w.heap.size → (K b ∨ D b) → ¬ S b) : WR K D w' p m sa sc aa ac fa fc ra rc ga gc := by
  have hm : ∀ b, Mine p fa ra ga b → ¬ S b := fun b hb => hS b (h.lt b hb) (.inl (h.k b hb))
  obtain ⟨r1, r2, r3, r4, r5⟩ := h.rows (D2 := fun b => D b ∧ ¬ Mine p fa ra ga b) hk (fun b hb hd => ⟨hS b hb (.inr hd.1), hd⟩)
  exact ⟨blk_keep h.blk hk (hm p (.inl rfl)), r1, r2, r3 (fun b hb => hm b (.inr (.inl hb))), r4 (fun b hb => hm b (.inr (.inr (.inl hb)))), r5 (fun b hb => hm b (.inr (.inr (.inr hb)))), h.d1, h.d2, h.d3, h.k⟩
theorem WR.mono {K' D' : Nat → Prop} (h : WR K D w p m sa sc aa ac fa fc ra rc ga gc) (h1 : ∀ b, b < w.heap.size → K b → K' b) (h2 : ∀ b, b < w.heap.size → D b → D' b) : WR K' D' w p m sa sc aa ac fa fc ra rc ga gc := by
  have hd : ∀ b, b < w.heap.size → (D b ∧ ¬ Mine p fa ra ga b) → (D' b ∧ ¬ Mine p fa ra ga b) := fun b hb h => ⟨h2 b hb h.1, h.2⟩
  refine ⟨h.blk, h.sb.mono hd, h.ah.mono hd, ?_, h.rp, ?_, h.d1, h.d2, h.d3, fun b hb => h1 b (h.lt b hb) (h.k b hb)⟩
  · obtain ⟨xs, g1, g2⟩ := h.fr
    exact ⟨xs, g1, g2.mono hd⟩
  · obtain ⟨xs, g1, g2⟩ := h.gt
    exact ⟨xs, g1, g2.mono hd⟩
theorem WR.setR (h : WR K D w p m sa sc aa ac fa fc ra rc ga gc) {r : Rv} {aa2 : Option Addr} {ac2 : Nat} (hf : Frs (fun b => D b ∧ ¬ Mine p fa ra ga b) w (.slice aa2 r.fs.length ac2) r.fs) :
    WR K D (((((w.setCell ⟨p, 4, none⟩ (.int .i64 r.nx)).setCell ⟨p, 5, none⟩ (.slice aa2 r.fs.length ac2)).setCell ⟨p, 6, none⟩ (.bool r.lk)).setCell ⟨p, 7, none⟩ (.int .u64 (r.l.k : Int))).setCell ⟨p, 8, none⟩ (.int .i64 r.l.i)) p ⟨m.s, r, m.fs, m.rp, m.gt⟩ sa sc aa2 ac2 fa fc ra rc ga gc := by
  have hk := keep5' w p 4 5 6 7 8 (.int .i64 r.nx) (.slice aa2 r.fs.length ac2) (.bool r.lk) (.int .u64 (r.l.k : Int)) (.int .i64 r.l.i)
  have hS : ∀ b, b < w.heap.size → (D b ∧ ¬ Mine p fa ra ga b) → ¬ b = p := fun b _ hd e => hd.2 (.inl e)
  obtain ⟨r1, r2, r3, r4, r5⟩ := h.rows (D2 := fun b => D b ∧ ¬ Mine p fa ra ga b) hk (fun b hb hd => ⟨hS b hb hd, hd⟩)
  exact ⟨blk_set (blk_set (blk_set (blk_set (blk_set h.blk 4 _) 5 _) 6 _) 7 _) 8 _, r1, hf.keep hk hS, r3 (fun b hb => (h.d1 b hb).1), r4 (fun b hb => (h.d2 b hb).1), r5 (fun b hb => h.d3 b hb), h.d1, h.d2, h.d3, h.k⟩
theorem WR.setS (h : WR K D w p m sa sc aa ac fa fc ra rc ga gc) {s : Sd} {sa2 : Option Addr} {sc2 : Nat} (hf : Bds (fun b => D b ∧ ¬ Mine p fa ra ga b) w (.slice sa2 s.bs.length sc2) s.bs) :
    WR K D ((((w.setCell ⟨p, 0, none⟩ (.slice sa2 s.bs.length sc2)).setCell ⟨p, 1, none⟩ (.int .i64 s.a)).setCell ⟨p, 2, none⟩ (.int .u64 (s.l.k : Int))).setCell ⟨p, 3, none⟩ (.int .i64 s.l.i)) p ⟨s, m.r, m.fs, m.rp, m.gt⟩ sa2 sc2 aa ac fa fc ra rc ga gc := by
  have hk := keep4' w p 0 1 2 3 (.slice sa2 s.bs.length sc2) (.int .i64 s.a) (.int .u64 (s.l.k : Int)) (.int .i64 s.l.i)
  have hS : ∀ b, b < w.heap.size → (D b ∧ ¬ Mine p fa ra ga b) → ¬ b = p := fun b _ hd e => hd.2 (.inl e)
  obtain ⟨r1, r2, r3, r4, r5⟩ := h.rows (D2 := fun b => D b ∧ ¬ Mine p fa ra ga b) hk (fun b hb hd => ⟨hS b hb hd, hd⟩)
  exact ⟨blk_set (blk_set (blk_set (blk_set h.blk 0 _) 1 _) 2 _) 3 _, hf.keep hk hS, r2, r3 (fun b hb => (h.d1 b hb).1), r4 (fun b hb => (h.d2 b hb).1), r5 (fun b hb => h.d3 b hb), h.d1, h.d2, h.d3, h.k⟩
theorem WR.gotApp (h : WR K D w p m sa sc aa ac fa fc ra rc ga gc) (hK : ∀ b, w.heap.size ≤ b → K b) {xs : List Value} (hc : BdL (fun b => D b ∧ ¬ Mine p fa ra ga b) w xs m.gt) {ys : List Value} {ds : List (List Nat)} (hs : BdL (fun b => D b ∧ ¬ Mine p fa ra ga b) w ys ds) {w7 : World} {a7 : Option Addr} {c7 : Nat}
    (h7 : Own (fun k => (Value.slice ga m.gt.length gc).ownBlock = some k ∨ w.heap.size ≤ k) w7 22 1 (.slice a7 (m.gt.length + ds.length) c7) (m.gt.length + ds.length) (xs ++ ys)) (hk7 : Keeps (fun b => (Value.slice ga m.gt.length gc).ownBlock = some b) w w7) :
    WR K D (w7.setCell ⟨p, 11, none⟩ (.slice a7 (m.gt.length + ds.length) c7)) p ⟨m.s, m.r, m.fs, m.rp, m.gt ++ ds⟩ sa sc aa ac fa fc ra rc a7 c7 := by
  have hp := blk_lt h.blk
  simp only [ownB] at hk7
  have h7' : ∀ b, (Value.slice a7 0 0).ownBlock = some b → (Value.slice ga 0 0).ownBlock = some b ∨ w.heap.size ≤ b := fun b hb => by
    have := h7.2 b (by rw [ownB]; exact hb)
    simp only [ownB] at this; exact this
  have g7p : ∀ b, (Value.slice a7 0 0).ownBlock = some b → b ≠ p := fun b hb e => by
    rcases h7' b hb with h' | h'
    · exact h.d3 b h' e
    · omega
  have hk : Keeps (fun b => b = p ∨ (Value.slice ga 0 0).ownBlock = some b) w (w7.setCell ⟨p, 11, none⟩ (.slice a7 (m.gt.length + ds.length) c7)) :=
    (hk7.mono (T := fun b => b = p ∨ (Value.slice ga 0 0).ownBlock = some b) (fun b _ hb => .inr hb)).setCell (.inl (.inl rfl)) _
  have hS : ∀ b, b < w.heap.size → (D b ∧ ¬ Mine p fa ra ga b) → ¬ (b = p ∨ (Value.slice ga 0 0).ownBlock = some b) := fun b _ hd e => hd.2 (by rcases e with e | e; exact .inl e; exact .inr (.inr (.inr e)))
  have hM : ∀ b, b < w.heap.size → (D b ∧ ¬ Mine p fa ra ga b) → (D b ∧ ¬ Mine p fa ra a7 b) := fun b hb hd => ⟨hd.1, fun e => hd.2 (by
    rcases e with e | e | e | e
    · exact .inl e
    · exact .inr (.inl e)
    · exact .inr (.inr (.inl e))
    · rcases h7' b e with h | h
      · exact .inr (.inr (.inr h))
      · omega)⟩
  have kS : Keeps (fun b => b = p) w7 (w7.setCell ⟨p, 11, none⟩ (.slice a7 (m.gt.length + ds.length) c7)) := keeps_set _ _ _ _ rfl
  obtain ⟨r1, r2, r3, r4, -⟩ := h.rows (D2 := fun b => D b ∧ ¬ Mine p fa ra a7 b) hk (fun b hb hd => ⟨hS b hb hd, hM b hb hd⟩)
  have hkd : ∀ b, b < w.heap.size → (D b ∧ ¬ Mine p fa ra ga b) → ((D b ∧ ¬ Mine p fa ra a7 b) ∧ ¬ (b = p ∨ (Value.slice ga 0 0).ownBlock = some b)) := fun b hb hd => ⟨hM b hb hd, hS b hb hd⟩
  refine ⟨?_, r1, r2, r3 (fun b hb e => ?_), r4 (fun b hb e => ?_), ?_, fun b hb => ?_, fun b hb => ?_, g7p, fun b hb => ?_⟩
  · have h8 := blk_set (blk_keep h.blk hk7 (fun e => h.d3 p e rfl)) 11 (.slice a7 (m.gt.length + ds.length) c7)
    show Blk _ p #[_, _, _, _, _, _, _, _, _, _, _, .slice a7 (m.gt ++ ds).length c7] _
    rw [List.length_append]
    exact h8
  · rcases e with e | e
    · exact (h.d1 b hb).1 e
    · exact (h.d1 b hb).2.2 e
  · rcases e with e | e
    · exact (h.d2 b hb).1 e
    · exact (h.d2 b hb).2 e
  · show BdO _ _ (.slice a7 (m.gt ++ ds).length c7) (m.gt ++ ds)
    refine ⟨xs ++ ys, ?_, (((hc.append hs).mono hkd).keep hk (fun b _ hd => hd.2)).mono (fun b _ hd => hd.1)⟩
    rw [List.length_append]
    exact ⟨(h7.keep kS (fun b hb hq e => by
      rcases hq with hq | hq
      · rw [ownB] at hq; exact h.d3 b hq e
      · omega)).1, fun _ h => h⟩
  · obtain ⟨e1, e2, e3⟩ := h.d1 b hb
    refine ⟨e1, e2, fun e => ?_⟩
    rcases h7' b e with h' | h'
    · exact e3 h'
    · have := h.lt b (.inr (.inl hb)); omega
  · obtain ⟨e1, e3⟩ := h.d2 b hb
    refine ⟨e1, fun e => ?_⟩
    rcases h7' b e with h' | h'
    · exact e3 h'
    · have := h.lt b (.inr (.inr (.inl hb))); omega
  · rcases hb with hb | hb | hb | hb
    · exact h.k b (.inl hb)
    · exact h.k b (.inr (.inl hb))
    · exact h.k b (.inr (.inr (.inl hb)))
    · rcases h7' b hb with h' | h'
      · exact h.k b (.inr (.inr (.inr h')))
      · exact hK b h'
theorem WR.frApp (h : WR K D w p m sa sc aa ac fa fc ra rc ga gc) (hK : ∀ b, w.heap.size ≤ b → K b) {xs : List Value} (hc : FrL (fun b => D b ∧ ¬ Mine p fa ra ga b) w xs m.fs) {ys : List Value} {ds : List Fr} (hs : FrL (fun b => D b ∧ ¬ Mine p fa ra ga b) w ys ds) {w7 : World} {a7 : Option Addr} {c7 : Nat}
    (h7 : Own (fun k => (Value.slice fa m.fs.length fc).ownBlock = some k ∨ w.heap.size ≤ k) w7 25 5 (.slice a7 (m.fs.length + ds.length) c7) (m.fs.length + ds.length) (xs ++ ys)) (hk7 : Keeps (fun b => (Value.slice fa m.fs.length fc).ownBlock = some b) w w7) :
    WR K D (w7.setCell ⟨p, 9, none⟩ (.slice a7 (m.fs.length + ds.length) c7)) p ⟨m.s, m.r, m.fs ++ ds, m.rp, m.gt⟩ sa sc aa ac a7 c7 ra rc ga gc := by
  have hp := blk_lt h.blk
  simp only [ownB] at hk7
  have h7' : ∀ b, (Value.slice a7 0 0).ownBlock = some b → (Value.slice fa 0 0).ownBlock = some b ∨ w.heap.size ≤ b := fun b hb => by
    have := h7.2 b (by rw [ownB]; exact hb)
    simp only [ownB] at this; exact this
  have g7p : ∀ b, (Value.slice a7 0 0).ownBlock = some b → b ≠ p := fun b hb e => by
    rcases h7' b hb with h' | h'
    · exact (h.d1 b h').1 e
    · omega
  have hk : Keeps (fun b => b = p ∨ (Value.slice fa 0 0).ownBlock = some b) w (w7.setCell ⟨p, 9, none⟩ (.slice a7 (m.fs.length + ds.length) c7)) :=
    (hk7.mono (T := fun b => b = p ∨ (Value.slice fa 0 0).ownBlock = some b) (fun b _ hb => .inr hb)).setCell (.inl (.inl rfl)) _
  have hS : ∀ b, b < w.heap.size → (D b ∧ ¬ Mine p fa ra ga b) → ¬ (b = p ∨ (Value.slice fa 0 0).ownBlock = some b) := fun b _ hd e => hd.2 (by rcases e with e | e; exact .inl e; exact .inr (.inl e))
  have hM : ∀ b, b < w.heap.size → (D b ∧ ¬ Mine p fa ra ga b) → (D b ∧ ¬ Mine p a7 ra ga b) := fun b hb hd => ⟨hd.1, fun e => hd.2 (by
    rcases e with e | e | e | e
    · exact .inl e
    · rcases h7' b e with h' | h'
      · exact .inr (.inl h')
      · omega
    · exact .inr (.inr (.inl e))
    · exact .inr (.inr (.inr e)))⟩
  have kS : Keeps (fun b => b = p) w7 (w7.setCell ⟨p, 9, none⟩ (.slice a7 (m.fs.length + ds.length) c7)) := keeps_set _ _ _ _ rfl
  obtain ⟨r1, r2, -, r4, r5⟩ := h.rows (D2 := fun b => D b ∧ ¬ Mine p a7 ra ga b) hk (fun b hb hd => ⟨hS b hb hd, hM b hb hd⟩)
  have hkd : ∀ b, b < w.heap.size → (D b ∧ ¬ Mine p fa ra ga b) → ((D b ∧ ¬ Mine p a7 ra ga b) ∧ ¬ (b = p ∨ (Value.slice fa 0 0).ownBlock = some b)) := fun b hb hd => ⟨hM b hb hd, hS b hb hd⟩
  refine ⟨?_, r1, r2, ?_, r4 (fun b hb e => ?_), r5 (fun b hb e => ?_), fun b hb => ?_, h.d2, h.d3, fun b hb => ?_⟩
  · have h8 := blk_set (blk_keep h.blk hk7 (fun e => (h.d1 p e).1 rfl)) 9 (.slice a7 (m.fs.length + ds.length) c7)
    show Blk _ p #[_, _, _, _, _, _, _, _, _, .slice a7 (m.fs ++ ds).length c7, _, _] _
    rw [List.length_append]
    exact h8
  · show FrO _ _ (.slice a7 (m.fs ++ ds).length c7) (m.fs ++ ds)
    refine ⟨xs ++ ys, ?_, (((hc.append hs).mono hkd).keep hk (fun b _ hd => hd.2)).mono (fun b _ hd => hd.1)⟩
    rw [List.length_append]
    exact ⟨(h7.keep kS (fun b hb hq e => by
      rcases hq with hq | hq
      · rw [ownB] at hq; exact (h.d1 b hq).1 e
      · omega)).1, fun _ h => h⟩
  · rcases e with e | e
    · exact (h.d2 b hb).1 e
    · exact (h.d1 b e).2.1 hb
  · rcases e with e | e
    · exact h.d3 b hb e
    · exact (h.d1 b e).2.2 hb
  · rcases h7' b hb with h' | h'
    · exact h.d1 b h'
    · exact ⟨g7p b hb, fun e => by have := h.lt b (.inr (.inr (.inl e))); omega, fun e => by have := h.lt b (.inr (.inr (.inr e))); omega⟩
  · rcases hb with hb | hb | hb | hb
    · exact h.k b (.inl hb)
    · rcases h7' b hb with h' | h'
      · exact h.k b (.inr (.inl h'))
      · exact hK b h'
    · exact h.k b (.inr (.inr (.inl hb)))
    · exact h.k b (.inr (.inr (.inr hb)))
theorem WR.rpApp (h : WR K D w p m sa sc aa ac fa fc ra rc ga gc) (hK : ∀ b, w.heap.size ≤ b → K b) {xs : List Value} (hc : RpL xs m.rp) {ys : List Value} {ds : List Rp} (hs : RpL ys ds) {w7 : World} {a7 : Option Addr} {c7 : Nat}
    (h7 : Own (fun k => (Value.slice ra m.rp.length rc).ownBlock = some k ∨ w.heap.size ≤ k) w7 50 4 (.slice a7 (m.rp.length + ds.length) c7) (m.rp.length + ds.length) (xs ++ ys)) (hk7 : Keeps (fun b => (Value.slice ra m.rp.length rc).ownBlock = some b) w w7) :
    WR K D (w7.setCell ⟨p, 10, none⟩ (.slice a7 (m.rp.length + ds.length) c7)) p ⟨m.s, m.r, m.fs, m.rp ++ ds, m.gt⟩ sa sc aa ac fa fc a7 c7 ga gc := by
  have hp := blk_lt h.blk
  simp only [ownB] at hk7
  have h7' : ∀ b, (Value.slice a7 0 0).ownBlock = some b → (Value.slice ra 0 0).ownBlock = some b ∨ w.heap.size ≤ b := fun b hb => by
    have := h7.2 b (by rw [ownB]; exact hb)
    simp only [ownB] at this; exact this
  have g7p : ∀ b, (Value.slice a7 0 0).ownBlock = some b → b ≠ p := fun b hb e => by
    rcases h7' b hb with h' | h'
    · exact (h.d2 b h').1 e
    · omega
  have hk : Keeps (fun b => b = p ∨ (Value.slice ra 0 0).ownBlock = some b) w (w7.setCell ⟨p, 10, none⟩ (.slice a7 (m.rp.length + ds.length) c7)) :=
    (hk7.mono (T := fun b => b = p ∨ (Value.slice ra 0 0).ownBlock = some b) (fun b _ hb => .inr hb)).setCell (.inl (.inl rfl)) _
  have hS : ∀ b, b < w.heap.size → (D b ∧ ¬ Mine p fa ra ga b) → ¬ (b = p ∨ (Value.slice ra 0 0).ownBlock = some b) := fun b _ hd e => hd.2 (by rcases e with e | e; exact .inl e; exact .inr (.inr (.inl e)))
  have hM : ∀ b, b < w.heap.size → (D b ∧ ¬ Mine p fa ra ga b) → (D b ∧ ¬ Mine p fa a7 ga b) := fun b hb hd => ⟨hd.1, fun e => hd.2 (by
    rcases e with e | e | e | e
    · exact .inl e
    · exact .inr (.inl e)
    · rcases h7' b e with h' | h'
      · exact .inr (.inr (.inl h'))
      · omega
    · exact .inr (.inr (.inr e)))⟩
  have kS : Keeps (fun b => b = p) w7 (w7.setCell ⟨p, 10, none⟩ (.slice a7 (m.rp.length + ds.length) c7)) := keeps_set _ _ _ _ rfl
  obtain ⟨r1, r2, r3, -, r5⟩ := h.rows (D2 := fun b => D b ∧ ¬ Mine p fa a7 ga b) hk (fun b hb hd => ⟨hS b hb hd, hM b hb hd⟩)
  refine ⟨?_, r1, r2, r3 (fun b hb e => ?_), ?_, r5 (fun b hb e => ?_), fun b hb => ?_, fun b hb => ?_, h.d3, fun b hb => ?_⟩
  · have h8 := blk_set (blk_keep h.blk hk7 (fun e => (h.d2 p e).1 rfl)) 10 (.slice a7 (m.rp.length + ds.length) c7)
    show Blk _ p #[_, _, _, _, _, _, _, _, _, _, .slice a7 (m.rp ++ ds).length c7, _] _
    rw [List.length_append]
    exact h8
  · rcases e with e | e
    · exact (h.d1 b hb).1 e
    · exact (h.d1 b hb).2.1 e
  · show RpO _ (.slice a7 (m.rp ++ ds).length c7) (m.rp ++ ds)
    refine ⟨xs ++ ys, ?_, hc.append hs⟩
    rw [List.length_append]
    exact ⟨(h7.keep kS (fun b hb hq e => by
      rcases hq with hq | hq
      · rw [ownB] at hq; exact (h.d2 b hq).1 e
      · omega)).1, fun _ h => h⟩
  · rcases e with e | e
    · exact h.d3 b hb e
    · exact (h.d2 b e).2 hb
  · obtain ⟨e1, e2, e3⟩ := h.d1 b hb
    refine ⟨e1, fun e => ?_, e3⟩
    rcases h7' b e with h' | h'
    · exact e2 h'
    · have := h.lt b (.inr (.inl hb)); omega
  · rcases h7' b hb with h' | h'
    · exact h.d2 b h'
    · exact ⟨g7p b hb, fun e => by have := h.lt b (.inr (.inr (.inr e))); omega⟩
  · rcases hb with hb | hb | hb | hb
    · exact h.k b (.inl hb)
    · exact h.k b (.inr (.inl hb))
    · rcases h7' b hb with h' | h'
      · exact h.k b (.inr (.inr (.inl h')))
      · exact hK b h'
    · exact h.k b (.inr (.inr (.inr hb)))
end
end Go.Proofs.YthoikljmokkchaaDoor
namespace Go.Proofs.YthoikljmokkchaaDoor
open Go.RowKit
attribute [local go_sem ↓] Go.wp_at_zero Go.wp_at_succ
theorem recvM_got {r : Rv} {f : Fr} {B : Int} (h : r.ok B) : (recvM r f).2.1.length ≤ 20 := by
  have hl := h.len
  unfold recvM
  split
  · simp
  · split
    · simp
    · unfold recv2
      repeat' split
      all_goals (try (show ([] : List (List Nat)).length ≤ 20; simp; done))
      unfold delivM
      have := dlvN_le r.fs (r.nx + 1)
      simp only [List.length_cons, List.length_map, List.length_take]
      omega
theorem bd_parts : ∃ i, Tryd.prog.info? 22 = some i ∧ i.zero = some (.slice none 0 0) ∧ i.size = 1 ∧ i.bytes = 24 := by
  obtain ⟨i, hi, h1⟩ := Option.map_eq_some_iff.1 infoBd
  simp only [Prod.mk.injEq] at h1
  exact ⟨i, hi, h1.1, h1.2.1, h1.2.2⟩
theorem frs_after {P : Nat → Prop} {X w' : World} {n : Nat} {v : Value} {l : List Fr} (h : Frs (fun b => P b ∨ X.heap.size ≤ b) w' v l) (hP : ∀ b, P b → b < n) (hn : n ≤ X.heap.size) : ∀ Y, Keeps (fun b => n ≤ b ∧ b < X.heap.size) w' Y → Frs (fun b => P b ∨ n ≤ b) Y v l := fun Y hk =>
  (h.keep hk (fun b _ h1 h2 => by rcases h1 with h1 | h1; (have := hP b h1; omega); omega)).mono (fun b _ h => by rcases h with h | h; exact .inl h; exact .inr (by omega))
theorem bds_after {X w' : World} {n : Nat} {v : Value} {l : List (List Nat)} (h : Bds (fun b => X.heap.size ≤ b) w' v l) (hn : n ≤ X.heap.size) : ∀ Y, Keeps (fun b => n ≤ b ∧ b < X.heap.size) w' Y → Bds (fun b => n ≤ b) Y v l := fun Y hk =>
  (h.keep hk (fun b _ h1 h2 => by omega)).mono (fun b _ h => by omega)
set_option maxRecDepth 100000 in
set_option maxHeartbeats 4000000 in
theorem arrive_any (m : WM) (p : Nat) (f : Fr) (ad : Option Addr) (cd : Nat) (K D K2 : Nat → Prop) (w : World) (hw : WRx K D w p m) (hK : ∀ b, w.heap.size ≤ b → K b ∧ D b) (hs : Sl K2 w (.slice ad f.b.length cd) (u8s f.b)) (B : Int) (hr : m.r.ok B) (hB : B ≤ 1000000000) (hf : f.ok) (hg : m.gt.length ≤ 100000) :
    Calls Tryd.prog 51 #[.pointer (some ⟨p, 0, none⟩), .agg #[.int .i64 f.q, .int .i64 f.k, .bool f.u, .slice ad f.b.length cd, .int .u64 (f.t : Int)]] w fun e w' => e = .returned (.int .i64 (recvM m.r f).2.2) ∧ WRx K D w' p (arriveM m f) ∧ Keeps K w w' := by
  obtain ⟨sa, sc, aa, ac, fa, fc, ra, rc, ga, gc, hw⟩ := hw
  have HW := hid hw
  have HKF := hid hK
  have HML := hid (WR.lt hw)
  have HSX := hid (hs.mono (K' := fun b => b < w.heap.size) (fun b h _ => h))
  have HOK := hid hr; have HFO := hid hf
  have hpl := blk_lt hw.blk
  have hps := hid hw
  clear hw hs hr hf hK
  obtain ⟨M2, hM2⟩ : ∃ x, recvM m.r f = x := ⟨_, rfl⟩
  have HM2 := hid hM2
  have HGL : Hd (M2.2.1.length ≤ 20) := hid (by rw [← hM2]; exact recvM_got HOK.out)
  unfold arriveM
  rw [hM2]
  clear hM2 hps
  obtain ⟨⟨nx2, fs2, lk2, ⟨rk2, ri2⟩⟩, bds, er⟩ := M2
  obtain ⟨S, ⟨nx, fs, lk, ⟨rk, ri⟩⟩, FSq, RP, GT⟩ := m
  obtain ⟨i0, hi, hz0, hz1, hz2⟩ := bd_parts
  simp only [] at *
  obtain ⟨fl, hfl⟩ : ∃ n, f.b.length = n := ⟨_, rfl⟩
  have HFL := hid hfl
  rw [hfl] at HSX ⊢
  clear hfl
  have HBP := hid HW.out.blk
  have HAH := hid HW.out.ah
  simp only [] at HBP HAH
  obtain ⟨fn, hfn⟩ : ∃ n, fs.length = n := ⟨_, rfl⟩
  have HFN := hid hfn
  rw [hfn] at HBP HAH
  clear hfn
  obtain ⟨gn, hgn⟩ : ∃ n, GT.length = n := ⟨_, rfl⟩
  have HGN := hid hgn
  rw [hgn] at HBP hg
  clear hgn
  obtain ⟨sn, hsn⟩ : ∃ n, S.bs.length = n := ⟨_, rfl⟩
  rw [hsn] at HBP
  have HSN := hid hsn
  clear hsn
  obtain ⟨f2n, hf2n⟩ : ∃ n, FSq.length = n := ⟨_, rfl⟩
  rw [hf2n] at HBP
  have HF2N := hid hf2n
  clear hf2n
  obtain ⟨rpn, hrpn⟩ : ∃ n, RP.length = n := ⟨_, rfl⟩
  rw [hrpn] at HBP
  have HRPN := hid hrpn
  clear hrpn
  obtain ⟨fn2, hfn2⟩ : ∃ n, fs2.length = n := ⟨_, rfl⟩
  have HFN2 := hid hfn2
  clear hfn2
  obtain ⟨bn, hbn⟩ : ∃ n, bds.length = n := ⟨_, rfl⟩
  have HBN := hid hbn
  have hbn20 : bn ≤ 20 := by rw [← hbn]; exact HGL.out
  clear hbn
  have HRC : Hd (∀ X, Keeps (fun _ => False) w X → Calls Tryd.prog 24 #[.agg #[.int .i64 nx, .slice aa fn ac, .bool lk, .int .u64 (rk : Int), .int .i64 ri], .agg #[.int .i64 f.q, .int .i64 f.k, .bool f.u, .slice ad fl cd, .int .u64 (f.t : Int)]] X fun e w' => ∃ a2 c2 a3 c3, e = .returned (.tuple #[.agg #[.int .i64 nx2, .slice a2 fn2 c2, .bool lk2, .int .u64 (rk2 : Int), .int .i64 ri2], .slice a3 bn c3, .int .i64 er]) ∧
      Frs (fun b => ((D b ∧ ¬ Mine p fa ra ga b) ∧ b < w.heap.size) ∨ X.heap.size ≤ b) w' (.slice a2 fn2 c2) fs2 ∧ Bds (fun b => X.heap.size ≤ b) w' (.slice a3 bn c3) bds ∧ Keeps (fun _ => False) X w') := hid (fun X hx => by
    have h := Receive_any nx fs aa ac lk ⟨rk, ri⟩ f (fun b => (D b ∧ ¬ Mine p fa ra ga b) ∧ b < w.heap.size) ad cd X (by rw [HFN.out]; exact (HAH.out.mono (fun b hb h => (⟨h, hb⟩ : (D b ∧ ¬ Mine p fa ra ga b) ∧ b < w.heap.size))).keep hx (fun _ _ _ h => h)) (fun b h => Nat.lt_of_lt_of_le h.2 hx.size) (by rw [HFL.out]; exact (HSX.out.keep hx (fun _ _ _ h => h)).mono (fun _ _ _ => trivial)) _ HOK.out hB HFO.out
    rw [HM2.out] at h
    unfold RecvR at h
    simp only [HFN.out, HFL.out, HFN2.out, HBN.out] at h
    exact h)
  go_enter Tryd.func51, Tryd.ntmps51
  go_upto_region 1 with fail
  generalize hW : World.alloc w _ = W1
  have KS : Hd (Keeps (fun _ => False) w W1) := hid (by rw [← hW]; exact (Keeps.alloc (Keeps.refl (fun _ => False) w) _))
  have HBP' : Hd (Blk W1 p #[(.slice sa sn sc), (.int .i64 S.a), (.int .u64 (S.l.k : Int)), (.int .i64 S.l.i), (.int .i64 nx), (.slice aa fn ac), (.bool lk), (.int .u64 (rk : Int)), (.int .i64 ri), (.slice fa f2n fc), (.slice ra rpn rc), (.slice ga gn gc)] 60) := hid (by rw [← hW]; exact (blk_alloc HBP.out _))
  have HW' : Hd (WR K D W1 p ⟨S, ⟨nx, fs, lk, ⟨rk, ri⟩⟩, FSq, RP, GT⟩ sa sc aa ac fa fc ra rc ga gc) := hid (HW.out.keep KS.out (fun _ _ _ h => h))
  have HSX' : Hd (Sl (fun b => b < w.heap.size) W1 (.slice ad fl cd) (u8s f.b)) := hid (HSX.out.keep KS.out (fun _ _ _ h => h))
  have BF : Hd (Blk W1 w.heap.size #[(.int .i64 f.q), (.int .i64 f.k), (.bool f.u), (.slice ad fl cd), (.int .u64 (f.t : Int))] 25) := hid (by rw [← hW]; exact (blk_new _ _ _))
  clear HBP HW HSX
  have HBP := HBP'
  clear HBP'
  have HW := HW'
  clear HW'
  have HSX := HSX'
  clear HSX'
  have HK : Hd (Keeps (fun _ => False) w W1) := hid KS.out
  have z_W1 : w.heap.size + 1 ≤ W1.heap.size := by rw [← hW]; simp
  clear hW KS
  have HRC2 : Hd (∀ X, Keeps (fun _ => False) W1 X → Calls Tryd.prog 24 #[.agg #[.int .i64 nx, .slice aa fn ac, .bool lk, .int .u64 (rk : Int), .int .i64 ri], .agg #[.int .i64 f.q, .int .i64 f.k, .bool f.u, .slice ad fl cd, .int .u64 (f.t : Int)]] X fun e w' => ∃ a2 c2 a3 c3, e = .returned (.tuple #[.agg #[.int .i64 nx2, .slice a2 fn2 c2, .bool lk2, .int .u64 (rk2 : Int), .int .i64 ri2], .slice a3 bn c3, .int .i64 er]) ∧ Frs (fun b => ((D b ∧ ¬ Mine p fa ra ga b) ∧ b < w.heap.size) ∨ X.heap.size ≤ b) w' (.slice a2 fn2 c2) fs2 ∧ Bds (fun b => X.heap.size ≤ b) w' (.slice a3 bn c3) bds ∧ Keeps (fun _ => False) X w') := hid (fun X hx => HRC.out X (HK.out.trans hx))
  clear HRC
  go_cut [7, 6, 5] from 9 to 23 (fun u7 u6 u5 wx => ∃ (a2 : Option Addr), ∃ (c2 : Nat), ∃ (a3 : Option Addr), ∃ (c3 : Nat), u7 = (.int .i64 er) ∧ u6 = (.slice a3 bn c3) ∧ ∃ bx, u5 = .pointer (some ⟨bx, 0, none⟩) ∧ W1.heap.size ≤ bx ∧ Hd (Blk wx bx #[(.int .i64 nx2), (.slice a2 fn2 c2), (.bool lk2), (.int .u64 (rk2 : Int)), (.int .i64 ri2)] 35) ∧ Hd (Frs (fun b => ((D b ∧ ¬ Mine p fa ra ga b) ∧ b < w.heap.size) ∨ W1.heap.size ≤ b) wx (.slice a2 fn2 c2) fs2) ∧ Hd (Bds (fun b => W1.heap.size ≤ b) wx (.slice a3 bn c3) bds) ∧ Hd (Keeps (fun _ => False) W1 wx))
  case first =>
    have KC : Hd (Keeps (fun _ => False) W1 W1) := hid (Keeps.refl _ _)
    have HSS : Hd (∀ w', Keeps (fun _ => False) W1 w' → (w'.cell? ⟨p, 4, none⟩ = some ((.int .i64 nx)) ∧ w'.cell? ⟨p, 5, none⟩ = some ((.slice aa fn ac)) ∧ w'.cell? ⟨p, 6, none⟩ = some ((.bool lk)) ∧ w'.cell? ⟨p, 7, none⟩ = some ((.int .u64 (rk : Int))) ∧ w'.cell? ⟨p, 8, none⟩ = some ((.int .i64 ri)) ∧ w'.cell? ⟨w.heap.size, 0, none⟩ = some ((.int .i64 f.q)) ∧ w'.cell? ⟨w.heap.size, 1, none⟩ = some ((.int .i64 f.k)) ∧ w'.cell? ⟨w.heap.size, 2, none⟩ = some ((.bool f.u)) ∧ w'.cell? ⟨w.heap.size, 3, none⟩ = some ((.slice ad fl cd)) ∧ w'.cell? ⟨w.heap.size, 4, none⟩ = some ((.int .u64 (f.t : Int))))) := hid (fun w' hk => ⟨blk_cell (blk_keep HBP.out hk (fun h => h)) 4, blk_cell (blk_keep HBP.out hk (fun h => h)) 5, blk_cell (blk_keep HBP.out hk (fun h => h)) 6, blk_cell (blk_keep HBP.out hk (fun h => h)) 7, blk_cell (blk_keep HBP.out hk (fun h => h)) 8, blk_cell (blk_keep BF.out hk (fun h => h)) 0, blk_cell (blk_keep BF.out hk (fun h => h)) 1, blk_cell (blk_keep BF.out hk (fun h => h)) 2, blk_cell (blk_keep BF.out hk (fun h => h)) 3, blk_cell (blk_keep BF.out hk (fun h => h)) 4⟩)
    go_region_held (fun w' => w'.cell? ⟨p, 4, none⟩ = some ((.int .i64 nx)) ∧ w'.cell? ⟨p, 5, none⟩ = some ((.slice aa fn ac)) ∧ w'.cell? ⟨p, 6, none⟩ = some ((.bool lk)) ∧ w'.cell? ⟨p, 7, none⟩ = some ((.int .u64 (rk : Int))) ∧ w'.cell? ⟨p, 8, none⟩ = some ((.int .i64 ri)) ∧ w'.cell? ⟨w.heap.size, 0, none⟩ = some ((.int .i64 f.q)) ∧ w'.cell? ⟨w.heap.size, 1, none⟩ = some ((.int .i64 f.k)) ∧ w'.cell? ⟨w.heap.size, 2, none⟩ = some ((.bool f.u)) ∧ w'.cell? ⟨w.heap.size, 3, none⟩ = some ((.slice ad fl cd)) ∧ w'.cell? ⟨w.heap.size, 4, none⟩ = some ((.int .u64 (f.t : Int)))) (exact HSS.out _ (by repeat (first | (with_reducible refine Keeps.setCell (S := fun _ => False) ?_ (.inl (by first | (with_reducible rfl) | (simp <;> fail) | fail)) _) | (with_reducible apply Keeps.drewN) | (with_reducible apply Keeps.drew) | (with_reducible apply Keeps.alloc) | (refine Keeps.setCell (S := fun _ => False) ?_ (.inr (by first | exact Nat.le_refl _ | omega | (simp; omega) | fail)) _) | (with_reducible exact KC.out) | (with_reducible exact Keeps.refl _ _) | (with_reducible exact KC.out.mono (fun _ _ h => h.elim)))))
      (first
      | (go_at_call 24; (refine (HRC2.out _ (by repeat (first | (with_reducible exact KC.out) | (with_reducible exact Keeps.refl _ _) | (with_reducible apply Keeps.drewN) | (with_reducible apply Keeps.drew) | (with_reducible apply Keeps.alloc)))).mono ?_); rintro e wy0 ⟨a2, c2, a3, c3, rfl, hfr, hbd, hk⟩; (try (replace LNB := hid (Keeps.trans (S := fun _ => False) (by repeat (first | (with_reducible exact LNB.out) | (with_reducible exact Keeps.refl _ _) | (with_reducible apply Keeps.drewN) | (with_reducible apply Keeps.drew) | (with_reducible apply Keeps.alloc))) hk))); (first | (have HNBX := HNB; clear HNBX) | (have HNB : Hd (∀ Vz, Keeps (fun _ => False) wy0 Vz → Blk Vz W1.heap.size #[(.int .i64 0), (.slice none 0 0), (.bool false), (.int .u64 0), (.int .i64 0)] 35) := hid (fun Vz hv => blk_keep (blk_keep (by (repeat (first | (with_reducible apply blk_drewN) | (with_reducible apply blk_drew) | (with_reducible refine blk_new' _ _ _ _ ?_) | (with_reducible apply blk_alloc))); (first | (with_reducible rfl) | (simp only [World.size_alloc, World.size_drew] <;> fail) | (simp <;> fail))) hk (fun h => h)) hv (fun h => h)); have LNB : Hd (Keeps (fun _ => False) wy0 wy0) := hid (Keeps.refl _ _); have hnbx : W1.heap.size ≤ W1.heap.size := by first | exact Nat.le_refl _ | omega | fail) | skip); (try (have nF0 := blk_cell (HNB.out _ LNB.out) 0; have nG0 := blk_free (HNB.out _ LNB.out) 0; have nF1 := blk_cell (HNB.out _ LNB.out) 1; have nG1 := blk_free (HNB.out _ LNB.out) 1; have nF2 := blk_cell (HNB.out _ LNB.out) 2; have nG2 := blk_free (HNB.out _ LNB.out) 2; have nF3 := blk_cell (HNB.out _ LNB.out) 3; have nG3 := blk_free (HNB.out _ LNB.out) 3; have nF4 := blk_cell (HNB.out _ LNB.out) 4; have nG4 := blk_free (HNB.out _ LNB.out) 4)); have KC2 : Hd (Keeps (fun _ => False) W1 wy0) := hid (Keeps.trans (S := fun _ => False) (by repeat (first | (with_reducible exact KC.out) | (with_reducible exact Keeps.refl _ _) | (with_reducible apply Keeps.drewN) | (with_reducible apply Keeps.drew) | (with_reducible apply Keeps.alloc))) hk); have zc := KC.out.size; have zk := hk.size; (try simp at zk); have HFR := hid (frs_after hfr (n := W1.heap.size) (fun b h => by have := h.2; omega) (by first | exact Nat.le_refl _ | (simp; done) | (simp; omega) | fail)); have HBD := hid (bds_after hbd (n := W1.heap.size) (by first | exact Nat.le_refl _ | (simp; done) | (simp; omega) | fail)); clear hfr hbd; replace KC := KC2; clear KC2; replace hk := hid hk))
    all_goals
      go_wp2_with fail
      go_meet
      exact ⟨a2, c2, a3, c3, rfl, rfl, _, rfl, (by first | exact Nat.le_refl _ | omega | (simp <;> fail) | (simp; omega) | fail), hid (by repeat (first | (with_reducible exact HNB.out _ LNB.out) | (with_reducible refine blkset5 (c0 := (.int .i64 0)) (c1 := (.slice none 0 0)) (c2 := (.bool false)) (c3 := (.int .u64 0)) (c4 := (.int .i64 0)) ?_) | (with_reducible refine blk_new' _ _ _ _ (by first | (with_reducible rfl) | (simp only [World.size_alloc, World.size_drew] <;> fail) | (simp <;> fail) | (simp; omega) | fail)) | (with_reducible refine blk_other ?_ (by first | omega | (simp only [World.size_alloc, World.size_drew]; omega) | fail) _ _) | (with_reducible apply blk_drewN) | (with_reducible apply blk_drew) | (with_reducible refine blk_alloc ?_ _))), hid (HFR.out _ (by repeat (first | (with_reducible exact Keeps.refl _ _) | (with_reducible apply Keeps.drewN) | (with_reducible apply Keeps.drew) | (with_reducible apply Keeps.alloc) | (refine Keeps.setCell ?_ (by first | exact .inr (Nat.le_refl _) | exact .inr (by simp; omega) | exact .inl ⟨by first | exact Nat.le_refl _ | omega | (simp; omega) | fail, by first | omega | (simp <;> fail) | (simp; omega) | fail⟩ | fail) _)))), hid (HBD.out _ (by repeat (first | (with_reducible exact Keeps.refl _ _) | (with_reducible apply Keeps.drewN) | (with_reducible apply Keeps.drew) | (with_reducible apply Keeps.alloc) | (refine Keeps.setCell ?_ (by first | exact .inr (Nat.le_refl _) | exact .inr (by simp; omega) | exact .inl ⟨by first | exact Nat.le_refl _ | omega | (simp; omega) | fail, by first | omega | (simp <;> fail) | (simp; omega) | fail⟩ | fail) _)))), hid (by repeat (first | (with_reducible refine Keeps.setCell (S := fun _ => False) ?_ (.inl (by first | (with_reducible rfl) | (simp <;> fail) | fail)) _) | (with_reducible apply Keeps.drewN) | (with_reducible apply Keeps.drew) | (with_reducible apply Keeps.alloc) | (refine Keeps.setCell (S := fun _ => False) ?_ (.inr (by first | exact Nat.le_refl _ | omega | (simp; omega) | fail)) _) | (with_reducible exact KC.out) | (with_reducible exact Keeps.refl _ _) | (with_reducible exact KC.out.mono (fun _ _ h => h.elim))))⟩
  case rest =>
    obtain ⟨a2, c2, a3, c3, rfl, rfl, b_R, rfl, hb_R, B_R, M_0, M_1, hk⟩ := hcut
    replace hk := hk.out
    generalize wc = W2 at *
    have HBP' : Hd (Blk W2 p #[(.slice sa sn sc), (.int .i64 S.a), (.int .u64 (S.l.k : Int)), (.int .i64 S.l.i), (.int .i64 nx), (.slice aa fn ac), (.bool lk), (.int .u64 (rk : Int)), (.int .i64 ri), (.slice fa f2n fc), (.slice ra rpn rc), (.slice ga gn gc)] 60) := hid (blk_keep HBP.out hk (fun h => by exact h))
    have HW' : Hd (WR K D W2 p ⟨S, ⟨nx, fs, lk, ⟨rk, ri⟩⟩, FSq, RP, GT⟩ sa sc aa ac fa fc ra rc ga gc) := hid (HW.out.keep hk (fun _ _ _ h => h))
    have HSX' : Hd (Sl (fun b => b < w.heap.size) W2 (.slice ad fl cd) (u8s f.b)) := hid (HSX.out.keep hk (fun _ _ _ h => h))
    have BF' : Hd (Blk W2 w.heap.size #[(.int .i64 f.q), (.int .i64 f.k), (.bool f.u), (.slice ad fl cd), (.int .u64 (f.t : Int))] 25) := hid (blk_keep BF.out hk (fun h => by exact h))
    clear HBP HW HSX BF
    have HBP := HBP'
    clear HBP'
    have HW := HW'
    clear HW'
    have HSX := HSX'
    clear HSX'
    have BF := BF'
    clear BF'
    have HK' : Hd (Keeps (fun _ => False) w W2) := hid (HK.out.trans hk)
    clear HK
    have HK := HK'
    clear HK'
    have z_W2 := hk.size
    clear hk
    have lt_R := blk_lt B_R.out
    clear HRC2
    have zp := blk_lt HBP.out
    have nePR : b_R ≠ p := by omega
    have nePF : p ≠ w.heap.size := by omega
    have o_HBP_0 : W2.cell? ⟨p, 0, none⟩ = some ((.slice sa sn sc)) := blk_cell HBP.out 0
    have o_HBP_1 : W2.cell? ⟨p, 1, none⟩ = some ((.int .i64 S.a)) := blk_cell HBP.out 1
    have o_HBP_2 : W2.cell? ⟨p, 2, none⟩ = some ((.int .u64 (S.l.k : Int))) := blk_cell HBP.out 2
    have o_HBP_3 : W2.cell? ⟨p, 3, none⟩ = some ((.int .i64 S.l.i)) := blk_cell HBP.out 3
    have o_HBP_4 : W2.cell? ⟨p, 4, none⟩ = some ((.int .i64 nx)) := blk_cell HBP.out 4
    have o_HBP_5 : W2.cell? ⟨p, 5, none⟩ = some ((.slice aa fn ac)) := blk_cell HBP.out 5
    have o_HBP_6 : W2.cell? ⟨p, 6, none⟩ = some ((.bool lk)) := blk_cell HBP.out 6
    have o_HBP_7 : W2.cell? ⟨p, 7, none⟩ = some ((.int .u64 (rk : Int))) := blk_cell HBP.out 7
    have o_HBP_8 : W2.cell? ⟨p, 8, none⟩ = some ((.int .i64 ri)) := blk_cell HBP.out 8
    have o_HBP_9 : W2.cell? ⟨p, 9, none⟩ = some ((.slice fa f2n fc)) := blk_cell HBP.out 9
    have o_HBP_10 : W2.cell? ⟨p, 10, none⟩ = some ((.slice ra rpn rc)) := blk_cell HBP.out 10
    have o_HBP_11 : W2.cell? ⟨p, 11, none⟩ = some ((.slice ga gn gc)) := blk_cell HBP.out 11
    have f_HBP_0 : W2.frozen? ⟨p, 0, none⟩ = false := blk_free HBP.out 0
    have f_HBP_1 : W2.frozen? ⟨p, 1, none⟩ = false := blk_free HBP.out 1
    have f_HBP_2 : W2.frozen? ⟨p, 2, none⟩ = false := blk_free HBP.out 2
    have f_HBP_3 : W2.frozen? ⟨p, 3, none⟩ = false := blk_free HBP.out 3
    have f_HBP_4 : W2.frozen? ⟨p, 4, none⟩ = false := blk_free HBP.out 4
    have f_HBP_5 : W2.frozen? ⟨p, 5, none⟩ = false := blk_free HBP.out 5
    have f_HBP_6 : W2.frozen? ⟨p, 6, none⟩ = false := blk_free HBP.out 6
    have f_HBP_7 : W2.frozen? ⟨p, 7, none⟩ = false := blk_free HBP.out 7
    have f_HBP_8 : W2.frozen? ⟨p, 8, none⟩ = false := blk_free HBP.out 8
    have f_HBP_9 : W2.frozen? ⟨p, 9, none⟩ = false := blk_free HBP.out 9
    have f_HBP_10 : W2.frozen? ⟨p, 10, none⟩ = false := blk_free HBP.out 10
    have f_HBP_11 : W2.frozen? ⟨p, 11, none⟩ = false := blk_free HBP.out 11
    have o_B_R_0 : W2.cell? ⟨b_R, 0, none⟩ = some ((.int .i64 nx2)) := blk_cell B_R.out 0
    have o_B_R_1 : W2.cell? ⟨b_R, 1, none⟩ = some ((.slice a2 fn2 c2)) := blk_cell B_R.out 1
    have o_B_R_2 : W2.cell? ⟨b_R, 2, none⟩ = some ((.bool lk2)) := blk_cell B_R.out 2
    have o_B_R_3 : W2.cell? ⟨b_R, 3, none⟩ = some ((.int .u64 (rk2 : Int))) := blk_cell B_R.out 3
    have o_B_R_4 : W2.cell? ⟨b_R, 4, none⟩ = some ((.int .i64 ri2)) := blk_cell B_R.out 4
    go_upto_region 3 with fail
    clear o_HBP_0 o_HBP_1 o_HBP_2 o_HBP_3 o_HBP_4 o_HBP_5 o_HBP_6 o_HBP_7 o_HBP_8 o_HBP_9 o_HBP_10 o_HBP_11 f_HBP_0 f_HBP_1 f_HBP_2 f_HBP_3 f_HBP_4 f_HBP_5 f_HBP_6 f_HBP_7 f_HBP_8 f_HBP_9 f_HBP_10 f_HBP_11 o_B_R_0 o_B_R_1 o_B_R_2 o_B_R_3 o_B_R_4
    generalize hW : World.setCell (World.setCell (World.setCell (World.setCell (World.setCell W2 _ _) _ _) _ _) _ _) _ _ = W3
    have HS3 : Hd (WR K D W3 p ⟨S, ⟨nx2, fs2, lk2, ⟨rk2, ri2⟩⟩, FSq, RP, GT⟩ sa sc a2 c2 fa fc ra rc ga gc) := hid (by
      have h := HW.out.setR (r := ⟨nx2, fs2, lk2, ⟨rk2, ri2⟩⟩) (aa2 := a2) (ac2 := c2) (by rw [HFN2.out]; exact M_0.out.mono (fun b _ h => by rcases h with h | h; exact h.1; exact ⟨(HKF.out b (by omega)).2, fun e => by have := HML.out b e; omega⟩))
      simp only [HFN2.out] at h
      rw [← hW]; exact h)
    have k3 : Keeps (fun b => b = p) W2 W3 := by rw [← hW]; exact keep5' _ _ _ _ _ _ _ _ _ _ _ _
    have HB3 : Hd (Bds (fun b => W1.heap.size ≤ b) W3 (.slice a3 bn c3) bds) := hid (M_1.out.keep k3 (fun b _ h1 h2 => by omega))
    have HK3 : Hd (Keeps K w W3) := hid ((HK.out.mono (T := K) (fun _ _ h => h.elim)).trans' k3 (fun i hi h => by rw [h]; exact HW.out.k p (.inl rfl)))
    have z3 : W2.heap.size ≤ W3.heap.size := k3.size
    clear hW k3 M_0 M_1 HK HBP HW HAH HSX BF B_R
    have HB4 := hid HS3.out.blk
    simp only [] at HB4
    rw [HGN.out] at HB4
    have c11 : W3.cell? ⟨p, 11, none⟩ = some (.slice ga gn gc) := blk_cell HB4.out 11
    have f11 : W3.frozen? ⟨p, 11, none⟩ = false := blk_free HB4.out 11
    obtain ⟨xs, hO, hX⟩ := HS3.out.gt
    simp only [] at hO hX
    rw [HGN.out] at hO
    have HO := hid hO; have HX := hid hX
    clear hO hX
    obtain ⟨ys, hY, hYB⟩ := HB3.out
    rw [HBN.out] at hY
    have HY := hid hY; have HYB := hid hYB
    clear hY hYB
    have HGP : Hd (∀ b, (Value.slice ga gn gc).ownBlock = some b → b ≠ p) := hid (fun b hb => by rw [ownB] at hb; exact HS3.out.d3 b hb)
    go_wp2_with (at_builtin; refine wpList_append_row rfl _ _ 43 rfl 22 i0 (.slice none 0 0) 1 24 Tryd.underlying43 hi hz0 hz1 hz2 rfl (by decide) _ (fun b => W1.heap.size ≤ b) _ _ _ _ rfl HO.out bn _ rfl HY.out (HYB.out.ones) ?h1 ?h2 ?_)
    case h1 => simp [maxLen]; omega
    case h2 => omega
    intro a7 c7 W4 hown hgrow; try intro _
    have d11 : W4.cell? ⟨p, 11, none⟩ = some (.slice ga gn gc) := keep_cell hgrow (fun h => HGP.out _ h rfl) c11
    have e11 : W4.frozen? ⟨p, 11, none⟩ = false := keep_free hgrow (fun h => HGP.out _ h rfl) c11 f11
    have HOWN := hid hown; have HGROW := hid hgrow
    clear hown hgrow c11 f11
    go_wp2
    go_ret
    have h := HS3.out.gotApp (fun b hb => (HKF.out b (by omega)).1) HX.out (ys := ys) (ds := bds) (HYB.out.mono (fun b _ h => ⟨(HKF.out b (by omega)).2, fun e => by have := HML.out b e; omega⟩)) (w7 := W4) (a7 := a7) (c7 := c7) (by simp only [HGN.out, HBN.out]; exact HOWN.out) (by simp only [HGN.out]; exact HGROW.out)
    simp only [HGN.out, HBN.out] at h
    refine ⟨rfl, ⟨_, _, _, _, _, _, _, _, _, _, h⟩, (HK3.out.trans' HGROW.out (fun i hi h => ?_)).setCell (.inl (HS3.out.k p (.inl rfl))) _⟩
    rw [ownB] at h; exact HS3.out.k i (.inr (.inr (.inr h)))
end Go.Proofs.YthoikljmokkchaaDoor
namespace Go.Proofs.YthoikljmokkchaaDoor
open Go.RowKit
def EmitAll (w : World) (m : Fr × Sd × Int) (e : Ending) (w' : World) : Prop := ∃ a c a2 c2, e = .returned (.tuple #[.agg #[.int .i64 m.1.q, .int .i64 m.1.k, .bool m.1.u, .slice a m.1.b.length c, .int .u64 (m.1.t : Int)], .agg #[.slice a2 m.2.1.bs.length c2, .int .i64 m.2.1.a, .int .u64 (m.2.1.l.k : Int), .int .i64 m.2.1.l.i], .int .i64 m.2.2]) ∧
  Sl (fun b => w.heap.size ≤ b) w' (.slice a m.1.b.length c) (u8s m.1.b) ∧ Bds (fun b => w.heap.size ≤ b) w' (.slice a2 m.2.1.bs.length c2) m.2.1.bs ∧ Keeps (fun _ => False) w w'
theorem emit_err {w w' : World} {e : Ending} {er : Int} (h : e = .returned (.tuple #[.agg #[.int .i64 0, .int .i64 0, .bool false, .slice none 0 0, .int .u64 0], .agg #[.slice none 0 0, .int .i64 0, .int .u64 0, .int .i64 0], .int .i64 er]) ∧ Keeps (fun _ => False) w w') : EmitAll w (zFr, zSd, er) e w' :=
  ⟨none, 0, none, 0, h.1, Sl.nil _ _, Bds.nil _ _, h.2⟩
theorem Emit_all (s : Sd) (ba : Option Addr) (bc : Nat) (q : Int) (K : Nat → Prop) (w : World) (hv : Bds K w (.slice ba s.bs.length bc) s.bs) (hn : s.bs.length ≤ 100000) (hx : ∀ x ∈ s.bs, x.length ≤ 512 ∧ ∀ c ∈ x, c < 256) (hl : s.l.ok) (ha : 0 ≤ s.a) (ha2 : s.a ≤ 1000000000000) :
    Calls Tryd.prog 39 #[.agg #[.slice ba s.bs.length bc, .int .i64 s.a, .int .u64 (s.l.k : Int), .int .i64 s.l.i], .int .i64 q] w fun e w' => EmitAll w (emitM s q) e w' := by
  by_cases h0 : q < 0
  · rw [show emitM s q = (zFr, zSd, 5) by unfold emitM; rw [if_pos (.inl h0)]]
    exact (Emit_neg ba s.bs.length bc s.a s.l.k s.l.i q w (by omega) h0).mono (fun e w' h => emit_err h)
  · by_cases h1 : (s.bs.length : Int) ≤ q
    · rw [show emitM s q = (zFr, zSd, 5) by unfold emitM; rw [if_pos (.inr h1)]]
      exact (Emit_big ba s.bs.length bc s.a s.l.k s.l.i q w (by omega) (by omega) h1).mono (fun e w' h => emit_err h)
    · by_cases h2 : q < s.a
      · rw [show emitM s q = (zFr, zSd, 32) by unfold emitM; rw [if_neg (by omega), if_pos (.inl h2)]]
        exact (Emit_old ba s.bs.length bc s.a s.l.k s.l.i q w (by omega) (by omega) (by omega) h2).mono (fun e w' h => emit_err h)
      · by_cases h3 : s.a + 16 ≤ q
        · rw [show emitM s q = (zFr, zSd, 32) by unfold emitM; rw [if_neg (by omega), if_pos (.inr h3)]]
          exact (Emit_far ba s.bs.length bc s.a s.l.k s.l.i q w (by omega) (by omega) (by omega) (by omega) ha ha2 h3).mono (fun e w' h => emit_err h)
        · rw [show emitM s q = (signF s.l ⟨q, 0, false, s.bs.getD q.toNat [], 0⟩, ⟨s.bs, s.a, nextL s.l⟩, 0) by unfold emitM; rw [if_neg (by omega), if_neg (by omega)]]
          have h := Emit_ok s.bs (s.bs.getD q.toNat []) ba bc s.a s.l q.toNat K w hv hn hx hl (by rw [List.getD, List.getElem?_eq_getElem (by omega)]; rfl) ha (by omega) (by omega)
          rw [show ((q.toNat : Nat) : Int) = q by omega] at h
          exact h
/-- bounds -/
structure WOk (m : WM) (n : Nat) : Prop where
  r : m.r.ok (5000 * (n : Int))
  f : ∀ x ∈ m.fs, x.ok
  b : ∀ x ∈ m.s.bs, ∀ c ∈ x, c < 256
  l : m.s.l.k < 18446744073709551616
theorem wok_begin {key : Nat} (h : key < 18446744073709551616) : WOk (beginM key) 0 :=
  ⟨⟨Int.le_refl _, Int.le_refl _, fun x h => (by cases h), List.Pairwise.nil, h, Int.le_refl _, Int.le_refl _⟩, fun x h => (by cases h), fun x h => (by cases h), h⟩
theorem WOk.mono {m : WM} {n k : Nat} (h : WOk m n) (hk : n ≤ k) : WOk m k := ⟨h.r.mono (by omega), h.f, h.b, h.l⟩
theorem WOk.arrive {m : WM} {n : Nat} {f : Fr} (h : WOk m n) (hn : n ≤ 100000) (hf : f.ok) : WOk (arriveM m f) (n + 1) :=
  ⟨by have := recvM_ok h.r (by omega) hf; rw [show 5000 * ((n + 1 : Nat) : Int) = 5000 * (n : Int) + 5000 by push_cast; omega]; exact this, h.f, h.b, h.l⟩
theorem WOk.lok {key : Nat} {m : WM} {n : Nat} (h : WOk m n) (hi : WInv key m n) (hn : n ≤ 100000) : m.s.l.ok := ⟨h.l, hi.l.1, by have := hi.li; omega⟩
theorem signF_okx {l : Ld} {f : Fr} (hl : l.ok) (q0 : -9223372036854775808 ≤ f.q) (q1 : f.q ≤ 9223372036854775807) (hb : ∀ c ∈ f.b, c < 256) (hn : f.b.length ≤ 512) : (signF l f).ok := by
  have h0 := hl.i0; have h1 := hl.i1
  exact ⟨q0, q1, by show _ ≤ l.i; omega, by show l.i ≤ _; omega, hb, tagN_lt _ _, by show f.b.length ≤ _; omega⟩
theorem wok_act {key : Nat} {m : WM} {n : Nat} {a : AC} (hi : WInv key m n) (h : WOk m n) (hn : n ≤ 1000) (ha : ∀ c ∈ a.b, c < 256) : WOk (actM m a) (n + 1) := by
  unfold actM
  split
  · refine ⟨(h.mono (Nat.le_succ n)).r, h.f, fun x hx => ?_, h.l⟩
    rcases List.mem_append.1 hx with hx | hx
    · exact h.b x hx
    · rw [List.mem_singleton.1 hx]; exact fun c hc => ha c (List.mem_of_mem_take hc)
  · split
    · rcases emitM_cases m.s (emitQ m a) with ⟨e, he, hem⟩ | ⟨h0, h1, h2, h3, hem⟩
      · rw [hem, if_neg he]; exact h.mono (by omega)
      · rw [hem, if_pos rfl]
        refine ⟨(h.mono (Nat.le_succ n)).r, fun x hx => ?_, h.b, stepN_lt _⟩
        rcases List.mem_append.1 hx with hx | hx
        · exact h.f x hx
        · rw [List.mem_singleton.1 hx]
          have hm := getD_mem (l := m.s.bs) (k := (emitQ m a).toNat) [] (by omega)
          exact signF_okx (h.lok hi (by omega)) (by show _ ≤ emitQ m a; omega) (by show emitQ m a ≤ _; have := hi.bn; omega) (h.b _ hm) (hi.bl _ hm)
    · split
      · split
        · rename_i hf
          have hb := around_b a.n (most := (m.fs.length : Int)) (by omega)
          exact h.arrive (by omega) (h.f _ (getD_mem zFr (show (around a.n m.fs.length).toNat < m.fs.length by omega)))
        · exact h.mono (by omega)
      · split
        · exact ⟨(h.mono (Nat.le_succ n)).r, h.f, h.b, h.l⟩
        · split
          · exact ⟨(h.mono (Nat.le_succ n)).r, h.f, h.b, by
              show iterN _ m.s.l.k < _
              exact iterN_lt h.l _⟩
          · exact h.mono (by omega)
theorem winv_gt {key : Nat} {m : WM} {n : Nat} (h : WInv key m n) : m.gt.length = m.r.nx.toNat ∧ m.gt.length ≤ n := by
  have h1 := h.r.n1; have h2 := h.bn; have h0 := h.r.n0
  have e : m.gt.length = m.r.nx.toNat := by rw [h.g, List.length_take]; omega
  exact ⟨e, by omega⟩
end Go.Proofs.YthoikljmokkchaaDoor
