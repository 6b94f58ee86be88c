/- Regions that draw their order: operations that read, and calls that hand back plain values, ahead of a tail in order. -/
import Derived.StillTail
import Derived.Test.YthoikljmokkchaaDoorBase
namespace Go.Proofs.YthoikljmokkchaaDoor
open Go.RowKit

section
variable {P : Program} {ops : Array Oper} {md : Region.Mode} {C : World → Prop}

end
theorem ext_blk {W : World} {b : Nat} {cs : Array Value} {T : TypeId} (h : Blk W b cs T) (x : Ext W) : Blk x.w b cs T := blk_keep h x.k (fun h => h)
theorem ext_bcell {W : World} {b : Nat} {cs : Array Value} {T : TypeId} (h : Blk W b cs T) (o : Nat) {v : Value} (hv : cs[o]? = some v) (x : Ext W) : x.w.cell? ⟨b, o, none⟩ = some v := (blk_cell (ext_blk h x) o).trans hv
/-- a struct of two cells stored into a block of the call's own -/
theorem fin2 {w W : World} {b : Nat} {T : TypeId} {c0 c1 : Value} (hk : Keeps (fun _ => False) w W) (hb : w.heap.size ≤ b) (hB : Blk W b #[c0, c1] T) (u0 u1 : Value) :
    Keeps (fun _ => False) w ((W.setCell ⟨b, 0, none⟩ u0).setCell ⟨b, 1, none⟩ u1) ∧ Blk ((W.setCell ⟨b, 0, none⟩ u0).setCell ⟨b, 1, none⟩ u1) b #[u0, u1] T :=
  ⟨(hk.setCell (.inr hb) _).setCell (.inr hb) _, blk_set (blk_set hB 0 u0) 1 u1⟩
end Go.Proofs.YthoikljmokkchaaDoor
