/- Contract of the reference Open. -/
import Derived.Test.YtgeicbjlichdgaaDoorCrcD
import Derived.Deep.RegionWith
import Derived.Deep.Cut
namespace Go.Proofs.YtgeicbjlichdgaaDoor.Cr
open Go.RowKit
attribute [local go_sem ↓] Go.wp_at_zero Go.wp_at_succ
theorem ba_loop (bs : ByteArray) : ∀ (n i : Nat) (r : List UInt8), bs.size - i = n → ByteArray.toList.loop bs i r = r.reverse ++ bs.data.toList.drop i := by
  intro n
  induction n with
  | zero =>
    intro i r h
    rw [ByteArray.toList.loop, if_neg (by omega), List.drop_eq_nil_of_le (by show bs.data.toList.length ≤ i; rw [Array.length_toList]; show bs.size ≤ i; omega)]
    simp
  | succ n ih =>
    intro i r h
    have hi : i < bs.size := by omega
    have hi2 : i < bs.data.toList.length := by rw [Array.length_toList]; exact hi
    rw [ByteArray.toList.loop, if_pos hi, ih (i+1) _ (by omega), List.drop_eq_getElem_cons hi2]
    have : bs.get! i = bs.data.toList[i] := by
      have h3 : i < bs.data.size := hi
      show bs.data[i]! = _
      rw [getElem!_pos bs.data i h3]; simp
    rw [this]; simp
theorem ba_inj {a b : ByteArray} (h : a.toList = b.toList) : a = b := by
  have e : ∀ s : ByteArray, s.toList = s.data.toList := fun s => by rw [ByteArray.toList, ba_loop s _ 0 [] rfl]; simp
  rw [e, e] at h
  cases a; cases b; congr; exact Array.toList_inj.mp h

end Go.Proofs.YtgeicbjlichdgaaDoor.Cr
