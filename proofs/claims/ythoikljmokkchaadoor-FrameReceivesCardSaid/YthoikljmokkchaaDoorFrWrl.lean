/- Frames: FrWA, FrWB, FrWC: walks and plain facts. -/
import Derived.Test.YthoikljmokkchaaDoorFrS
import Derived.Test.YthoikljmokkchaaDoorFrHist
import Derived.Deep.DrawnRows
import Derived.Test.YthoikljmokkchaaDoorFrMid
namespace Go.Proofs.YthoikljmokkchaaDoor
open Go.RowKit
def RpCells (c : Nat → Value) (x : Rp) : Prop := c 0 = .int .i64 x.nx ∧ c 1 = .int .i64 x.ha ∧ c 2 = .int .i64 x.ky ∧ c 3 = .bool x.lk
def RpL (xs : List Value) (l : List Rp) : Prop := xs.length = l.length * 4 ∧ ∀ i x, l[i]? = some x → RpCells (fun j => xs.getD (i * 4 + j) undef) x
theorem RpL.nil : RpL [] [] := ⟨rfl, fun i x h => by simp at h⟩
theorem RpL.append {xs ys : List Value} {l m : List Rp} (h : RpL xs l) (h2 : RpL ys m) : RpL (xs ++ ys) (l ++ m) := by
  refine ⟨by rw [List.length_append, List.length_append, h.1, h2.1]; omega, fun i y hi => ?_⟩
  have cg : ∀ {c c' : Nat → Value}, RpCells c y → (∀ j, c' j = c j) → RpCells c' y := fun {c c'} hc e => by
    obtain ⟨h0, h1, h2, h3⟩ := hc
    exact ⟨(e 0).trans h0, (e 1).trans h1, (e 2).trans h2, (e 3).trans h3⟩
  rcases Nat.lt_or_ge i l.length with hl | hl
  · rw [List.getElem?_append_left hl] at hi
    have h3 := h.2 i y hi
    have key : ∀ j, j < 4 → (xs ++ ys).getD (i * 4 + j) undef = xs.getD (i * 4 + j) undef := fun j hj => by
      unfold List.getD
      rw [List.getElem?_append_left (by rw [h.1]; omega)]
    exact ⟨(key 0 (by omega)).trans h3.1, (key 1 (by omega)).trans h3.2.1, (key 2 (by omega)).trans h3.2.2.1, (key 3 (by omega)).trans h3.2.2.2⟩
  · rw [List.getElem?_append_right hl] at hi
    refine cg (h2.2 _ y hi) (fun j => ?_)
    unfold List.getD
    rw [List.getElem?_append_right (by rw [h.1]; omega), h.1]
    congr 2; omega
theorem RpL.one (x : Rp) : RpL [.int .i64 x.nx, .int .i64 x.ha, .int .i64 x.ky, .bool x.lk] [x] := by
  refine ⟨rfl, fun i y hi => ?_⟩
  match i, hi with
  | 0, hi => simp at hi; subst hi; exact ⟨rfl, rfl, rfl, rfl⟩
  | i + 1, hi => simp at hi
def RpO (w : World) (v : Value) (l : List Rp) : Prop := ∃ xs, Own (fun b => v.ownBlock = some b) w 50 4 v l.length xs ∧ RpL xs l
def FrO (D : Nat → Prop) (w : World) (v : Value) (l : List Fr) : Prop := ∃ xs, Own (fun b => v.ownBlock = some b) w 25 5 v l.length xs ∧ FrL D w xs l
def BdO (D : Nat → Prop) (w : World) (v : Value) (l : List (List Nat)) : Prop := ∃ xs, Own (fun b => v.ownBlock = some b) w 22 1 v l.length xs ∧ BdL D w xs l
/-- the blocks that the world itself writes -/
def Mine (p : Nat) (fa ra ga : Option Addr) (b : Nat) : Prop := b = p ∨ (Value.slice fa 0 0).ownBlock = some b ∨ (Value.slice ra 0 0).ownBlock = some b ∨ (Value.slice ga 0 0).ownBlock = some b
theorem ownB (a : Option Addr) (n c : Nat) : (Value.slice a n c).ownBlock = (Value.slice a 0 0).ownBlock := by cases a <;> rfl
structure WR (K D : Nat → Prop) (w : World) (p : Nat) (m : WM) (sa : Option Addr) (sc : Nat) (aa : Option Addr) (ac : Nat) (fa : Option Addr) (fc : Nat) (ra : Option Addr) (rc : Nat) (ga : Option Addr) (gc : Nat) : Prop where
  blk : Blk w p #[.slice sa m.s.bs.length sc, .int .i64 m.s.a, .int .u64 (m.s.l.k : Int), .int .i64 m.s.l.i, .int .i64 m.r.nx, .slice aa m.r.fs.length ac, .bool m.r.lk, .int .u64 (m.r.l.k : Int), .int .i64 m.r.l.i, .slice fa m.fs.length fc, .slice ra m.rp.length rc, .slice ga m.gt.length gc] 60
  sb : Bds (fun b => D b ∧ ¬ Mine p fa ra ga b) w (.slice sa m.s.bs.length sc) m.s.bs
  ah : Frs (fun b => D b ∧ ¬ Mine p fa ra ga b) w (.slice aa m.r.fs.length ac) m.r.fs
  fr : FrO (fun b => D b ∧ ¬ Mine p fa ra ga b) w (.slice fa m.fs.length fc) m.fs
  rp : RpO w (.slice ra m.rp.length rc) m.rp
  gt : BdO (fun b => D b ∧ ¬ Mine p fa ra ga b) w (.slice ga m.gt.length gc) m.gt
  d1 : ∀ b, (Value.slice fa 0 0).ownBlock = some b → b ≠ p ∧ (Value.slice ra 0 0).ownBlock ≠ some b ∧ (Value.slice ga 0 0).ownBlock ≠ some b
  d2 : ∀ b, (Value.slice ra 0 0).ownBlock = some b → b ≠ p ∧ (Value.slice ga 0 0).ownBlock ≠ some b
  d3 : ∀ b, (Value.slice ga 0 0).ownBlock = some b → b ≠ p
  k : ∀ b, Mine p fa ra ga b → K b
theorem own_ltx {S : Nat → Prop} {w : World} {e : TypeId} {size : Nat} {a : Option Addr} {n c k : Nat} {xs : List Value} (h : Own S w e size (.slice a n c) k xs) {b : Nat} (hb : (Value.slice a 0 0).ownBlock = some b) : b < w.heap.size :=
  (h.1.lt b (by rw [ownB]; exact hb)).2
section
variable {K D : Nat → Prop} {w : World} {p : Nat} {m : WM} {sa : Option Addr} {sc : Nat} {aa : Option Addr} {ac : Nat} {fa : Option Addr} {fc : Nat} {ra : Option Addr} {rc : Nat} {ga : Option Addr} {gc : Nat}
theorem WR.lt (h : WR K D w p m sa sc aa ac fa fc ra rc ga gc) : ∀ b, Mine p fa ra ga b → b < w.heap.size := by
  intro b hb
  obtain ⟨xf, hf, _⟩ := h.fr
  obtain ⟨xr, hr, _⟩ := h.rp
  obtain ⟨xg, hg, _⟩ := h.gt
  rcases hb with rfl | hb | hb | hb
  · exact blk_lt h.blk
  · exact own_ltx hf hb
  · exact own_ltx hr hb
  · exact own_ltx hg hb
/-- every row, where what changed is not its data -/
theorem WR.rows {S D2 : Nat → Prop} {w' : World} (h : WR K D w p m sa sc aa ac fa fc ra rc ga gc) (hk : Keeps S w w') (hS : ∀ b, b < w.heap.size → (D b ∧ ¬ Mine p fa ra ga b) → ¬ S b ∧ D2 b) :
    Bds D2 w' (.slice sa m.s.bs.length sc) m.s.bs ∧ Frs D2 w' (.slice aa m.r.fs.length ac) m.r.fs ∧
    ((∀ b, (Value.slice fa 0 0).ownBlock = some b → ¬ S b) → FrO D2 w' (.slice fa m.fs.length fc) m.fs) ∧
    ((∀ b, (Value.slice ra 0 0).ownBlock = some b → ¬ S b) → RpO w' (.slice ra m.rp.length rc) m.rp) ∧
    ((∀ b, (Value.slice ga 0 0).ownBlock = some b → ¬ S b) → BdO D2 w' (.slice ga m.gt.length gc) m.gt) := by
  have h1 : ∀ b, b < w.heap.size → (D b ∧ ¬ Mine p fa ra ga b) → (¬ S b ∧ D2 b) := fun b hb hd => hS b hb hd
  have h2 : ∀ b, b < w.heap.size → (¬ S b ∧ D2 b) → ¬ S b := fun b _ hd => hd.1
  have h3 : ∀ b, b < w'.heap.size → (¬ S b ∧ D2 b) → D2 b := fun b _ hd => hd.2
  refine ⟨((h.sb.mono h1).keep hk h2).mono h3, ((h.ah.mono h1).keep hk h2).mono h3, fun g => ?_, fun g => ?_, fun g => ?_⟩
  · obtain ⟨xs, g1, g2⟩ := h.fr
    exact ⟨xs, g1.keep hk (fun b _ hb => g b (by rw [ownB] at hb; exact hb)), ((g2.mono h1).keep hk h2).mono h3⟩
  · obtain ⟨xs, g1, g2⟩ := h.rp
    exact ⟨xs, g1.keep hk (fun b _ hb => g b (by rw [ownB] at hb; exact hb)), g2⟩
  · obtain ⟨xs, g1, g2⟩ := h.gt
    exact ⟨xs, g1.keep hk (fun b _ hb => g b (by rw [ownB] at hb; exact hb)), ((g2.mono h1).keep hk h2).mono h3⟩
theorem WR.keep {S : Nat → Prop} {w' : World} (h : WR K D w p m sa sc aa ac fa fc ra rc ga gc) (hk : Keeps S w w') (hS : ∀ b, b < w.heap.size → (K b ∨ D b) → ¬ S b) : WR K D w' p m sa sc aa ac fa fc ra rc ga gc := by
  have hm : ∀ b, Mine p fa ra ga b → ¬ S b := fun b hb => hS b (h.lt b hb) (.inl (h.k b hb))
  obtain ⟨r1, r2, r3, r4, r5⟩ := h.rows (D2 := fun b => D b ∧ ¬ Mine p fa ra ga b) hk (fun b hb hd => ⟨hS b hb (.inr hd.1), hd⟩)
  exact ⟨blk_keep h.blk hk (hm p (.inl rfl)), r1, r2, r3 (fun b hb => hm b (.inr (.inl hb))), r4 (fun b hb => hm b (.inr (.inr (.inl hb)))), r5 (fun b hb => hm b (.inr (.inr (.inr hb)))), h.d1, h.d2, h.d3, h.k⟩
theorem WR.mono {K' D' : Nat → Prop} (h : WR K D w p m sa sc aa ac fa fc ra rc ga gc) (h1 : ∀ b, b < w.heap.size → K b → K' b) (h2 : ∀ b, b < w.heap.size → D b → D' b) : WR K' D' w p m sa sc aa ac fa fc ra rc ga gc := by
  have hd : ∀ b, b < w.heap.size → (D b ∧ ¬ Mine p fa ra ga b) → (D' b ∧ ¬ Mine p fa ra ga b) := fun b hb h => ⟨h2 b hb h.1, h.2⟩
  refine ⟨h.blk, h.sb.mono hd, h.ah.mono hd, ?_, h.rp, ?_, h.d1, h.d2, h.d3, fun b hb => h1 b (h.lt b hb) (h.k b hb)⟩
  · obtain ⟨xs, g1, g2⟩ := h.fr
    exact ⟨xs, g1, g2.mono hd⟩
  · obtain ⟨xs, g1, g2⟩ := h.gt
    exact ⟨xs, g1, g2.mono hd⟩
end
end Go.Proofs.YthoikljmokkchaaDoor
namespace Go.Proofs.YthoikljmokkchaaDoor
open Go.RowKit
attribute [local go_sem ↓] Go.wp_at_zero Go.wp_at_succ
end Go.Proofs.YthoikljmokkchaaDoor
namespace Go.Proofs.YthoikljmokkchaaDoor
open Go.RowKit
/-- bounds -/
structure WOk (m : WM) (n : Nat) : Prop where
  r : m.r.ok (5000 * (n : Int))
  f : ∀ x ∈ m.fs, x.ok
  b : ∀ x ∈ m.s.bs, ∀ c ∈ x, c < 256
  l : m.s.l.k < 18446744073709551616
theorem WOk.mono {m : WM} {n k : Nat} (h : WOk m n) (hk : n ≤ k) : WOk m k := ⟨h.r.mono (by omega), h.f, h.b, h.l⟩
end Go.Proofs.YthoikljmokkchaaDoor
