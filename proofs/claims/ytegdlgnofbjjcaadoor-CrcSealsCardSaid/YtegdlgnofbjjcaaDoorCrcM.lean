/- The walk of the law CrcSum. -/
import Derived.Test.YtegdlgnofbjjcaaDoorCrcL
namespace Go.Proofs.YtegdlgnofbjjcaaDoor
open Go.RowKit
attribute [local go_sem ↓] Go.wp_at_zero Go.wp_at_succ
set_option maxRecDepth 100000 in set_option maxHeartbeats 1000000 in
theorem sum_any (v : Value) (l : List Nat) (s : Nat) (w : World) (hN : Nib w) (hv : Sl (fun b => b < w.heap.size) w v (u8s l)) (hl : ∀ c ∈ l, c < 256) (hs : s < 4294967296) :
    Calls Tryd.prog 3 #[v, .int .u32 s] w fun e w' => e = .returned (.bool true) ∧ Keeps (fun _ => False) w w' := by
  have HN := hid hN; have HV := hid hv; have HL := hid hl; have HS := hid hs
  obtain ⟨a, cap, rfl, q1, q2, q3⟩ := hv.bytes
  clear hN hv hl hs q3
  unfold maxLen at q2
  by_cases hlong : (l.length : Int) > 4096
  · generalize l.length = n at *
    go_enter Tryd.func3, Tryd.ntmps3
    go_wp2_with fail
    refine (lives_any _ HN.out).mono ?_
    rintro e w6 ⟨rfl, hk6⟩
    have Q6 := hid hk6
    clear hk6
    go_wp2
    go_ret
    exact ⟨rfl, Q6.out⟩
  · have HLE : Hd (l.length ≤ 1000000000) := hid (by omega)
    generalize hll : l.length = n at *
    have HLL := hid hll; clear hll
    go_enter Tryd.func3, Tryd.ntmps3
    go_wp2_with fail
    refine (Sum_any _ _ l _ HN.out HV.out HL.out (by rw [HLL.out]; exact HLE.out)).mono ?_
    rintro e w1 ⟨rfl, rfl⟩
    go_wp2_with fail
    refine (RSum_any _ _ l _ HV.out HL.out (by rw [HLL.out]; exact HLE.out)).mono ?_
    rintro e w1 ⟨rfl, rfl⟩
    go_wp2_with fail
    refine (Update_any _ s _ l _ HN.out HV.out HS.out HL.out (by rw [HLL.out]; exact HLE.out)).mono ?_
    rintro e w1 ⟨rfl, rfl⟩
    go_wp2_with fail
    refine (RUpdate_any _ s _ l _ HV.out HS.out HL.out (by rw [HLL.out]; exact HLE.out)).mono ?_
    rintro e w1 ⟨rfl, rfl⟩
    go_wp2_with fail
    refine (lives_any _ HN.out).mono ?_
    rintro e w6 ⟨rfl, hk6⟩
    have Q6 := hid hk6
    clear hk6
    go_wp2
    go_ret
    exact ⟨rfl, Q6.out⟩
end Go.Proofs.YtegdlgnofbjjcaaDoor
