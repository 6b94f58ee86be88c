/- Combine at a length below nought. -/
import Derived.Test.YtegdlgnofbjjcaaDoorCrcP
namespace Go.Proofs.YtegdlgnofbjjcaaDoor
open Go.RowKit
attribute [local go_sem ↓] Go.wp_at_zero Go.wp_at_succ
set_option maxRecDepth 100000 in set_option maxHeartbeats 1000000 in
theorem RCombine_neg (a b : Nat) (z : Int) (w : World) (ha : a < 4294967296) (hb : b < 4294967296) (hz : z < 0) :
    Calls Tryd.prog 19 #[.int .u32 a, .int .u32 b, .int .i64 z] w fun e w' => e = .returned (.int .u32 (a ^^^ b : Nat)) ∧ w = w' := by
  have X1 := u32_xor_nat a b ha hb
  clear ha hb
  go_enter Tryd.func19, Tryd.ntmps19
  go_wp2_with fail
  go_loop [0, 7] (fun r i => r = .int .u32 a ∧ i = .int .i64 0) (fun _ _ => 0)
  case atStart => exact ⟨rfl, rfl⟩
  case round =>
    obtain ⟨rfl, rfl⟩ := hrel
    go_wp2
    go_ret
    exact ⟨rfl, rfl⟩
set_option maxRecDepth 100000 in set_option maxHeartbeats 1000000 in
theorem Combine_neg (a0 b0 : Nat) (z : Int) (w : World) (hN : Nib w) (ha : a0 < 4294967296) (hb : b0 < 4294967296) (hn : z < 0) :
    Calls Tryd.prog 18 #[.int .u32 a0, .int .u32 b0, .int .i64 z] w fun e w' => e = .returned (.int .u32 (a0 ^^^ b0 : Nat)) ∧ Keeps (fun _ => False) w w' := by
  have HN := hid hN; have HA := hid ha; have HB := hid hb
  clear hN ha hb
  go_enter Tryd.func18, Tryd.ntmps18
  go_wp2_with fail
  refine (zero_any _ HN.out).mono ?_
  rintro e w1 ⟨rfl, hk1⟩
  have HK1 := hid hk1; clear hk1
  have HT : Hd ((w1.alloc (.cells (parA 8 0) 57)).there w1.heap.size 0 (matV 8).size) := hid (by have := blk_there (blk_new w1 (parA 8 0) 57); rw [par_size] at this; rw [mat_size]; exact this)
  have A1 : Hd (Arr ((w1.alloc (.cells (parA 8 0) 57)).setCells w1.heap.size 0 (matV 8).toList) w1.heap.size (matV 8).toList) := hid (arr_store (arr_blk (blk_new w1 (parA 8 0) 57)) _ (by rw [mat_len, Array.length_toList, par_size]))
  have HK2 : Hd (Keeps (fun _ => False) w ((w1.alloc (.cells (parA 8 0) 57)).setCells w1.heap.size 0 (matV 8).toList)) := hid (keeps_setCells _ _ 0 (HK1.out.alloc _) (.inr HK1.out.size))
  have HI := hid (mat_info' 8); have HO := hid (mat_one 8)
  have HP : Hd (w.heap.size ≤ w1.heap.size) := hid HK1.out.size
  generalize hm : matV 8 = m at *
  have HM := hid hm; clear hm
  go_wp2_with (refine wpList_store_mid rfl _ _ _ rfl _ _ m rfl (by simp [go_sem]) HT.out HI.out HO.out ?_)
  simp only [Act.put]
  change Code.wp _ _ _ _ ((w1.alloc (.cells (parA 8 0) 57)).setCells w1.heap.size 0 m.toList)
  generalize (w1.alloc (.cells (parA 8 0) 57)).setCells w1.heap.size 0 m.toList = w2 at *
  generalize w1.heap.size = p0 at *
  clear HT HI HO
  have X1 := u32_xor_nat a0 b0 HA.out HB.out
  go_loopw [0, 2, 7] (fun r i q wr => r = .int .u32 a0 ∧ i = .int .i64 z ∧ q = .pointer (some ⟨p0, 0, none⟩) ∧ Hd (Keeps (fun _ => False) w wr)) (fun _ _ _ _ => 0)
  case atStart => exact ⟨rfl, rfl, rfl, HK2⟩
  case round =>
    obtain ⟨rfl, rfl, rfl, hkeep⟩ := hrel
    go_wp2
    go_ret
    exact ⟨rfl, hkeep.out⟩
end Go.Proofs.YtegdlgnofbjjcaaDoor
