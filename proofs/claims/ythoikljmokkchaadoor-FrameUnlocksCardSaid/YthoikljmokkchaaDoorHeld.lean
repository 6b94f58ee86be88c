/- A region that draws its order, in one cut: a struct that is made in it, and what its calls handed back. -/
import Derived.Test.YthoikljmokkchaaDoorBase
import Derived.Test.YthoikljmokkchaaDoorRegion
import Derived.Deep.Cut
import Derived.Deep.RegionHeld
namespace Go.Proofs.YthoikljmokkchaaDoor
open Go.RowKit
/-- a struct in a block that W had not, with a fact about its cells and what they point to -/
def CutF (W : World) (T : TypeId) (P : Nat → Array Value → World → Prop) (u : Value) (wx : World) : Prop := ∃ bx cs, u = .pointer (some ⟨bx, 0, none⟩) ∧ W.heap.size ≤ bx ∧ Hd (Blk wx bx cs T) ∧ Hd (P bx cs wx) ∧ Hd (Keeps (fun _ => False) W wx)
theorem keq {b : Nat} {w w' : World} (h : Keeps (fun i => i = b) w w') (o : Nat) (v : Value) : Keeps (fun i => i = b) w (w'.setCell ⟨b, o, none⟩ v) := h.setCell (S := fun i => i = b) (p := ⟨b, o, none⟩) (.inl rfl) v
section
variable {W w2 : World} {T : TypeId} {P : Nat → Array Value → World → Prop} {b : Nat} {c0 c1 c2 c3 c4 c5 z0 z1 z2 z3 z4 z5 : Value}
theorem cutF_new {cs : Array Value} (hk : Keeps (fun _ => False) W w2) (hP : ∀ w', Keeps (fun _ => False) w2 w' → P w2.heap.size cs w') : CutF W T P (.pointer (some ⟨w2.heap.size, 0, none⟩)) (w2.alloc (.cells cs T)) :=
  ⟨_, cs, rfl, hk.size, hid (blk_new _ _ _), hid (hP _ (keeps_alloc _ _ _)), hid (hk.alloc _)⟩
theorem cutF_old2 (hk : Keeps (fun _ => False) W w2) (hb : W.heap.size ≤ b) (hn : Blk w2 b #[z0, z1] T) (hP : ∀ w', Keeps (fun i => i = b) w2 w' → P b #[c0, c1] w') :
    CutF W T P (.pointer (some ⟨b, 0, none⟩)) ((w2.setCell ⟨b, 0, none⟩ c0).setCell ⟨b, 1, none⟩ c1) :=
  ⟨b, #[c0, c1], rfl, hb, hid (blk_set (blk_set hn 0 _) 1 _), hid (hP _ (keq (keq (Keeps.refl _ _) 0 _) 1 _)), hid ((hk.setCell (.inr hb) _).setCell (.inr hb) _)⟩
theorem cutF_old3 (hk : Keeps (fun _ => False) W w2) (hb : W.heap.size ≤ b) (hn : Blk w2 b #[z0, z1, z2] T) (hP : ∀ w', Keeps (fun i => i = b) w2 w' → P b #[c0, c1, c2] w') :
    CutF W T P (.pointer (some ⟨b, 0, none⟩)) (((w2.setCell ⟨b, 0, none⟩ c0).setCell ⟨b, 1, none⟩ c1).setCell ⟨b, 2, none⟩ c2) :=
  ⟨b, #[c0, c1, c2], rfl, hb, hid (blk_set (blk_set (blk_set hn 0 _) 1 _) 2 _), hid (hP _ (keq (keq (keq (Keeps.refl _ _) 0 _) 1 _) 2 _)), hid (((hk.setCell (.inr hb) _).setCell (.inr hb) _).setCell (.inr hb) _)⟩
theorem cutF_old5 (hk : Keeps (fun _ => False) W w2) (hb : W.heap.size ≤ b) (hn : Blk w2 b #[z0, z1, z2, z3, z4] T) (hP : ∀ w', Keeps (fun i => i = b) w2 w' → P b #[c0, c1, c2, c3, c4] w') :
    CutF W T P (.pointer (some ⟨b, 0, none⟩)) (((((w2.setCell ⟨b, 0, none⟩ c0).setCell ⟨b, 1, none⟩ c1).setCell ⟨b, 2, none⟩ c2).setCell ⟨b, 3, none⟩ c3).setCell ⟨b, 4, none⟩ c4) :=
  ⟨b, #[c0, c1, c2, c3, c4], rfl, hb, hid (blk_set (blk_set (blk_set (blk_set (blk_set hn 0 _) 1 _) 2 _) 3 _) 4 _), hid (hP _ (keq (keq (keq (keq (keq (Keeps.refl _ _) 0 _) 1 _) 2 _) 3 _) 4 _)), hid (((((hk.setCell (.inr hb) _).setCell (.inr hb) _).setCell (.inr hb) _).setCell (.inr hb) _).setCell (.inr hb) _)⟩
theorem cutF_old6 (hk : Keeps (fun _ => False) W w2) (hb : W.heap.size ≤ b) (hn : Blk w2 b #[z0, z1, z2, z3, z4, z5] T) (hP : ∀ w', Keeps (fun i => i = b) w2 w' → P b #[c0, c1, c2, c3, c4, c5] w') :
    CutF W T P (.pointer (some ⟨b, 0, none⟩)) ((((((w2.setCell ⟨b, 0, none⟩ c0).setCell ⟨b, 1, none⟩ c1).setCell ⟨b, 2, none⟩ c2).setCell ⟨b, 3, none⟩ c3).setCell ⟨b, 4, none⟩ c4).setCell ⟨b, 5, none⟩ c5) :=
  ⟨b, #[c0, c1, c2, c3, c4, c5], rfl, hb, hid (blk_set (blk_set (blk_set (blk_set (blk_set (blk_set hn 0 _) 1 _) 2 _) 3 _) 4 _) 5 _), hid (hP _ (keq (keq (keq (keq (keq (keq (Keeps.refl _ _) 0 _) 1 _) 2 _) 3 _) 4 _) 5 _)), hid ((((((hk.setCell (.inr hb) _).setCell (.inr hb) _).setCell (.inr hb) _).setCell (.inr hb) _).setCell (.inr hb) _).setCell (.inr hb) _)⟩
theorem cutF_drew {u : Value} {wx : World} (hP : ∀ w' bx cs, P bx cs w' → P bx cs w'.drew) (h : CutF W T P u wx) : CutF W T P u wx.drew := by
  obtain ⟨bx, cs, h1, h2, h3, h4, h5⟩ := h
  exact ⟨bx, cs, h1, h2, hid h3.out, hid (hP _ _ _ h4.out), hid h5.out.drew⟩
end
/-- a block that was made just before the present world's call -/
theorem new_blk {W V w1 : World} {cs : Array Value} {T : TypeId} (h : Keeps (fun _ => False) V w1) (hV : V.heap = (W.alloc (.cells cs T)).heap) : Hd (Blk w1 W.heap.size cs T) :=
  hid (blk_keep (w := V) (show V.heap[W.heap.size]? = _ by rw [hV]; exact blk_new W cs T) h (fun h => h))
end Go.Proofs.YthoikljmokkchaaDoor
