/- Frames: WireF, WireG, WireH, WireI: walks and plain facts. -/
import Derived.Test.YthoikljmokkchaaDoorWireAll
import Derived.Deep.Cut
namespace Go.Proofs.YthoikljmokkchaaDoor.Wi
open Go.RowKit

set_option maxRecDepth 100000 in set_option maxHeartbeats 400000 in
theorem RFail_any (K : Nat → Prop) (p : Nat) (s : St) (c : Int) (w : World) (h : Rd K w p s) :
    Calls Tryd.prog 83 #[.pointer (some ⟨p, 0, none⟩), .int .i64 c] w fun e w' => e = .returned (.tuple #[]) ∧ Rd K w' p (sFail s c) ∧ Keeps (fun k => k = p) w w' := by
  have HR := hid h
  obtain ⟨bv, bs, at_, g1, g2, g3, g4, g5, g6, g7, g8, g9, g10, g11, g12⟩ := h
  obtain ⟨e0, l⟩ := s
  have G := hid (And.intro g6 (And.intro g7 (And.intro g8 (And.intro g9 (And.intro g10 g11))))); have G12 := hid g12
  clear g6 g7 g8 g9 g10 g11 g12
  simp only at g3
  by_cases he : e0 = 0
  · subst he
    go_enter Tryd.func83, Tryd.ntmps83
    go_wp2
    go_end0
    refine ⟨rfl, ?_, keeps_set (fun k => k = p) w _ _ rfl⟩
    rw [show sFail (0, l) c = (c, l) from rfl]
    exact rd_of (e := c) (l := l) (rc_set2 ⟨g1, g2, g3, g4, g5⟩ c) (keeps_set (fun k => k = p) w _ _ rfl) G.out (fun _ => G12.out (by simp))
  · have HE := hid he
    have t1 : (e0 == 0) = false := by simp; exact he
    clear he
    go_enter Tryd.func83, Tryd.ntmps83
    go_wp2
    go_end0
    refine ⟨rfl, ?_, Keeps.refl _ _⟩
    rw [show sFail (e0, l) c = (e0, l) by simp [sFail, HE.out]]
    exact HR.out

/-- the reference's reader, a value -/
def RV (K : Nat → Prop) (w : World) (v : Value) (s : St) : Prop :=
  ∃ bv l, v = .agg #[bv, .int .i64 s.1] ∧ Sl K w bv (u8s l) ∧ l.length ≤ 140737488355000 ∧ (∀ c ∈ l, c < 256) ∧ (s.1 = 0 → s.2 = l)
theorem RV.keep {K S : Nat → Prop} {w w' : World} {v : Value} {s : St} (h : RV K w v s) (hk : Keeps S w w') (hd : ∀ b, b < w.heap.size → K b → ¬ S b) : RV K w' v s := by
  obtain ⟨bv, l, h1, h2, h3⟩ := h
  exact ⟨bv, l, h1, h2.keep hk hd, h3⟩
theorem RV.mono {K K' : Nat → Prop} {w : World} {v : Value} {s : St} (h : RV K w v s) (hd : ∀ b, b < w.heap.size → K b → K' b) : RV K' w v s := by
  obtain ⟨bv, l, h1, h2, h3⟩ := h
  exact ⟨bv, l, h1, h2.mono hd, h3⟩
theorem RV.old {K : Nat → Prop} {w : World} {v : Value} {s : St} (h : RV K w v s) : RV (fun b => K b ∧ b < w.heap.size) w v s := h.mono (fun _ hb h => ⟨h, hb⟩)
end Go.Proofs.YthoikljmokkchaaDoor.Wi
namespace Go.Proofs.YthoikljmokkchaaDoor.Wi
open Go.RowKit

end Go.Proofs.YthoikljmokkchaaDoor.Wi
namespace Go.Proofs.YthoikljmokkchaaDoor.Wi
open Go.RowKit

end Go.Proofs.YthoikljmokkchaaDoor.Wi
namespace Go.Proofs.YthoikljmokkchaaDoor.Wi
open Go.RowKit

end Go.Proofs.YthoikljmokkchaaDoor.Wi
