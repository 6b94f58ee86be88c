/- The walks of WireWrites and WirePrefix. -/
import Derived.Test.YtlebocjcelbbpaaWireO
namespace Go.Proofs.Ytlebocjcelbbpaa
open Go.RowKit

set_option maxRecDepth 100000 in set_option maxHeartbeats 1000000 in
theorem wireWrites_any (v : Value) (l : List It) (w : World) (hv : Its (fun b => b < w.heap.size) w v l) (hok : ∀ x ∈ l, x.ok) (hw : wts l ≤ 1000000000) :
    Calls Try.prog 4 #[v] w fun e w' => e = .returned (.bool true) ∧ Keeps (fun _ => False) w w' := by
  have HV := hid hv; have HOK := hid hok; have HW := hid hw
  obtain ⟨a, cap, rfl, hx⟩ := hv.form
  clear hx hv hok hw
  generalize hln : l.length = n at *
  go_enter Try.func4, Try.ntmps4
  clear hln
  go_wp2_with fail
  refine (written_any _ _ l _ HV.out (fun _ h => h) HOK.out (by have := HW.out; omega)).mono ?_
  rintro e w1 ⟨a1, n1, c1, rfl, hn, ho, hk⟩
  have H1 : Hd (Sl (fun b => w.heap.size ≤ b) w1 (.slice a1 n1 c1) (u8s (encAll l))) := hid (row_sl ho.row hn.symm)
  have K1 := hid hk; have V1 := hid (HV.out.keep hk (fun _ _ _ h => h))
  clear hn ho hk
  go_wp2_with fail
  refine (encoded_any _ _ l _ V1.out HOK.out (by have := HW.out; omega)).mono ?_
  rintro e w2 ⟨a2, n2, c2, rfl, hn, ho, hk⟩
  have H2 : Hd (Sl (fun b => w1.heap.size ≤ b) w2 (.slice a2 n2 c2) (u8s (encAll l))) := hid (row_sl ho.row hn.symm)
  have K2 := hid (K1.out.trans hk); have H1' := hid (H1.out.keep hk (fun _ _ _ h => h))
  clear hn ho hk
  have hle : Hd ((encAll l).length ≤ 1000000000) := hid (by have := encAll_len (l := l) HOK.out (by have := HW.out; omega); have := HW.out; omega)
  go_wp2_with fail
  refine (SameBytes_any _ _ _ _ _ _ _ H1'.out H2.out hle.out).mono ?_
  rintro e w3 ⟨rfl, hd⟩
  have K3 := hid (K2.out.trans (drawn_keeps _ hd)); clear hd
  rw [decide_eq_true rfl]
  go_wp2_with fail
  refine (lives_any _).mono ?_
  rintro e w4 ⟨rfl, hk⟩
  have K4 := hid (K3.out.trans hk); clear hk
  go_wp2
  go_ret
  exact ⟨rfl, K4.out⟩

/-- whether neither is a prefix of the other, or both are equal -/
def apartB (x y : List Nat) (eq : Bool) : Bool := if eq then decide (x = y) else !decide (x.take (min x.length y.length) = y.take (min x.length y.length))
end Go.Proofs.Ytlebocjcelbbpaa
