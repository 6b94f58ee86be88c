/- What 'got := read(..)' leaves, whatever the order of its parts. -/
import Derived.Test.YtlebocjcelbbpaaWireCt
import Derived.Deep.RegionHeld
namespace Go.Proofs.Ytlebocjcelbbpaa
open Go.RowKit
def itCells (r : It) (vb vl : Value) : Array Value := #[.int .i64 r.kind, .int .u64 (r.u : Nat), .int .i64 r.n, vb, vl, .int .i64 r.most]
theorem rdIt_lens (kind most : Int) (s : St) : (rdIt kind most s).2.b.length ≤ s.2.length ∧ (rdIt kind most s).2.l.length ≤ s.2.length := by
  unfold rdIt
  split
  · simp
  · split
    · simp
    · split
      · exact ⟨sB_len most s, by simp⟩
      · exact ⟨by simp, sL_len most s⟩
abbrev itZero : Array Value := #[.int .i64 0, .int .u64 0, .int .i64 0, .slice none 0 0, .slice none 0 0, .int .i64 0]
def GotR (K : Nat → Prop) (px : Nat) (wr : World) (s' : St) (r : It) (u : Value) (wx : World) : Prop := ∃ g ab nb cb al nl cl, u = .pointer (some ⟨g, 0, none⟩) ∧ wr.heap.size ≤ g ∧
  Hd (Blk wx g #[.int .i64 r.kind, .int .u64 (r.u : Nat), .int .i64 r.n, .slice ab nb cb, .slice al nl cl, .int .i64 r.most] 46) ∧
  Hd (Sl (fun b => wr.heap.size ≤ b ∧ b ≠ g) wx (.slice ab nb cb) (u8s r.b)) ∧ Hd (Sl (fun b => wr.heap.size ≤ b ∧ b ≠ g) wx (.slice al nl cl) (i64s r.l)) ∧ Hd (Rd K wx px s') ∧ Hd (Keeps (fun b => b = px) wr wx)
theorem gotR_new {K : Nat → Prop} {px : Nat} {wr V w6 : World} {s' : St} {r : It} {ab al : Option Addr} {nb cb nl cl : Nat} (hV : wr.heap.size ≤ V.heap.size) (hb : Hd (Sl (fun b => V.heap.size ≤ b) w6 (.slice ab nb cb) (u8s r.b))) (hl : Hd (Sl (fun b => V.heap.size ≤ b) w6 (.slice al nl cl) (i64s r.l))) (hr : Hd (Rd K w6 px s'))
    (hk : Hd (Keeps (fun b => b = px) wr w6)) :
    GotR K px wr s' r (.pointer (some ⟨w6.heap.size, 0, none⟩)) (w6.alloc (.cells #[.int .i64 r.kind, .int .u64 (r.u : Nat), .int .i64 r.n, .slice ab nb cb, .slice al nl cl, .int .i64 r.most] 46)) := by
  have ka := keeps_alloc (fun _ => False) w6 (.cells #[.int .i64 r.kind, .int .u64 (r.u : Nat), .int .i64 r.n, .slice ab nb cb, .slice al nl cl, .int .i64 r.most] 46)
  exact ⟨_, ab, nb, cb, al, nl, cl, rfl, hk.out.size, hid (blk_new _ _ _), hid ((hb.out.mono (fun b h1 h2 => ⟨Nat.le_trans hV h2, Nat.ne_of_lt h1⟩)).keep ka (fun _ _ _ h => h)), hid ((hl.out.mono (fun b h1 h2 => ⟨Nat.le_trans hV h2, Nat.ne_of_lt h1⟩)).keep ka (fun _ _ _ h => h)), hid (Rd.keep hr.out ka (fun h => h) (fun _ _ _ h => h)), hid (hk.out.alloc _)⟩
theorem gotR_old {K : Nat → Prop} {px g : Nat} {wr V w6 : World} {s' : St} {r : It} {ab al : Option Addr} {nb cb nl cl : Nat} {z0 z1 z2 z3 z4 z5 : Value} (hg : wr.heap.size ≤ g) (hgV : g < V.heap.size) (hpx : px < wr.heap.size) (hKg : ¬ K g) (hb : Hd (Sl (fun b => V.heap.size ≤ b) w6 (.slice ab nb cb) (u8s r.b))) (hl : Hd (Sl (fun b => V.heap.size ≤ b) w6 (.slice al nl cl) (i64s r.l))) (hr : Hd (Rd K w6 px s'))
    (hk : Hd (Keeps (fun b => b = px) wr w6)) (hB : Hd (Blk w6 g #[z0, z1, z2, z3, z4, z5] 46)) :
    GotR K px wr s' r (.pointer (some ⟨g, 0, none⟩)) ((((((w6.setCell ⟨g, 0, none⟩ (.int .i64 r.kind)).setCell ⟨g, 1, none⟩ (.int .u64 (r.u : Nat))).setCell ⟨g, 2, none⟩ (.int .i64 r.n)).setCell ⟨g, 3, none⟩ (.slice ab nb cb)).setCell ⟨g, 4, none⟩ (.slice al nl cl)).setCell ⟨g, 5, none⟩ (.int .i64 r.most)) := by
  have ks : ∀ (S : Nat → Prop), S g → Keeps S w6 ((((((w6.setCell ⟨g, 0, none⟩ (.int .i64 r.kind)).setCell ⟨g, 1, none⟩ (.int .u64 (r.u : Nat))).setCell ⟨g, 2, none⟩ (.int .i64 r.n)).setCell ⟨g, 3, none⟩ (.slice ab nb cb)).setCell ⟨g, 4, none⟩ (.slice al nl cl)).setCell ⟨g, 5, none⟩ (.int .i64 r.most)) := fun S hS =>
    (((((keeps_set S w6 _ _ hS).setCell (.inl hS) _).setCell (.inl hS) _).setCell (.inl hS) _).setCell (.inl hS) _).setCell (.inl hS) _
  have hB6 := blk_set (blk_set (blk_set (blk_set (blk_set (blk_set hB.out 0 (.int .i64 r.kind)) 1 (.int .u64 (r.u : Nat))) 2 (.int .i64 r.n)) 3 (.slice ab nb cb)) 4 (.slice al nl cl)) 5 (.int .i64 r.most)
  simp only [List.setIfInBounds_toArray, List.set_cons_zero, List.set_cons_succ] at hB6
  refine ⟨g, ab, nb, cb, al, nl, cl, rfl, hg, hid hB6, hid ((hb.out.mono (fun b h1 h2 => ⟨by omega, by omega⟩)).keep (ks (fun b => b = g) rfl) (fun b _ h1 h2 => h1.2 h2)), hid ((hl.out.mono (fun b h1 h2 => ⟨by omega, by omega⟩)).keep (ks (fun b => b = g) rfl) (fun b _ h1 h2 => h1.2 h2)), hid (Rd.keep hr.out (ks (fun b => b = g) rfl) (fun h => by omega) (fun b _ h1 h2 => by subst h2; exact hKg h1)), hid (hk.out.trans' (ks (fun b => b = g) rfl) (fun i hi hs => by omega))⟩
theorem gotR_drew {K : Nat → Prop} {px : Nat} {wr : World} {s' : St} {r : It} {u : Value} {wx : World} (h : GotR K px wr s' r u wx) : GotR K px wr s' r u wx.drew := by
  obtain ⟨g, ab, nb, cb, al, nl, cl, h1, h2, h3, h4, h5, h6, h7⟩ := h
  have kd := Keeps.drew (Keeps.refl (fun _ => False) wx)
  exact ⟨g, ab, nb, cb, al, nl, cl, h1, h2, hid (blk_drew h3.out), hid (h4.out.keep kd (fun _ _ _ h => h)), hid (h5.out.keep kd (fun _ _ _ h => h)), hid (Rd.keep h6.out kd (fun h => h) (fun _ _ _ h => h)), hid h7.out.drew⟩
end Go.Proofs.Ytlebocjcelbbpaa
