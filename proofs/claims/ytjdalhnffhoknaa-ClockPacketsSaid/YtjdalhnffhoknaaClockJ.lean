/- The examples of the chapter hold. -/
import Derived.Test.YtjdalhnffhoknaaClockI
namespace Go.Proofs.Ytjdalhnffhoknaa
open Go.RowKit

def exTab : List Lp := [⟨100, 2⟩, ⟨200, 1⟩]
theorem exTab_tab (w : World) : Tab (fun k => k = w.heap.size) (w.alloc (.cells #[.int .i64 100, .int .i64 2, .int .i64 200, .int .i64 1] 69)) (.slice (some ⟨w.heap.size, 0, none⟩) 2 2) exTab := by
  refine ⟨rfl, .inr ⟨_, 2, rfl, by decide, by decide, fun _ => ⟨w.heap.size, 0, rfl, rfl, by simp, fun j hj => ?_⟩⟩⟩
  have hB := blk_new w #[.int .i64 100, .int .i64 2, .int .i64 200, .int .i64 1] 69
  rw [Nat.zero_add, blk_cell hB]
  have h4 : j < 4 := hj
  rcases j with _ | _ | _ | _ | j
  · rfl
  · rfl
  · rfl
  · rfl
  · omega
theorem exTab_inc : inc exTab := by
  intro j k h1 h2
  have h4 : k < 2 := h2
  obtain rfl : j = 0 := by omega
  obtain rfl : k = 1 := by omega
  decide
theorem exTab_off : offs exTab := by intro x hx; simp [exTab] at hx; rcases hx with rfl | rfl <;> decide
theorem sl_two (w : World) (x y : Int) : Sl (fun k => k = w.heap.size) (w.alloc (.cells #[.int .i64 x, .int .i64 y] 3)) (.slice (some ⟨w.heap.size, 0, none⟩) 2 2) (i64s [x, y]) := by
  refine ⟨rfl, .inr ⟨_, 2, rfl, Nat.le_refl 2, by decide, fun _ => ⟨w.heap.size, 0, rfl, rfl, by simp, fun j hj => ?_⟩⟩⟩
  have hB := blk_new w #[.int .i64 x, .int .i64 y] 3
  rw [Nat.zero_add, blk_cell hB]
  have h4 : j < 2 := hj
  rcases j with _ | _ | j
  · rfl
  · rfl
  · omega
set_option maxRecDepth 100000 in set_option maxHeartbeats 1000000 in
theorem lives_any (w : World) : Calls Try.prog 19 #[] w fun e w' => e = .returned (.bool true) ∧ Keeps (fun _ => False) w w' := by
  go_enter Try.func19, Try.ntmps19
  go_wp2_with fail
  have T0 := exTab_tab w
  have K0 := keeps_alloc (fun _ => False) w (.cells #[.int .i64 100, .int .i64 2, .int .i64 200, .int .i64 1] 69)
  generalize World.alloc w _ = W at *
  have HT0 := hid T0; have HK0 := hid K0
  clear T0 K0
  have E1 : cor ⟨0, 100⟩ ⟨3, 8, 40⟩ 10 5 = (⟨41, 49⟩, 0) := by kernel_rfl
  refine (Correlate_ok ⟨0, 100⟩ ⟨3, 8, 40⟩ 10 5 _ (by decide) (by omega) (by omega) (by omega)).mono ?_
  rw [E1]
  rintro e w1 ⟨rfl, hk⟩
  have HK1 := hid (HK0.out.trans hk); have HT1 := hid (HT0.out.keep hk (fun _ _ _ h => h))
  clear hk HT0 HK0 E1
  go_wp2_with fail
  have E1 : cor ⟨0, 100⟩ ⟨3, 8, 300⟩ 8 5 = (⟨0, 0⟩, 22) := by kernel_rfl
  have C0 : Blk (w1.alloc (.cells #[.int .i64 41, .int .i64 49] 25)) w1.heap.size #[.int .i64 41, .int .i64 49] 25 := blk_new _ _ _
  have z1 := HK1.out.size
  have k1 := keeps_alloc (fun _ => False) w1 (.cells #[.int .i64 41, .int .i64 49] 25)
  generalize World.alloc w1 _ = W1 at *
  refine (Correlate_ok ⟨0, 100⟩ ⟨3, 8, 300⟩ 8 5 _ (by decide) (by omega) (by omega) (by omega)).mono ?_
  rw [E1]
  rintro e w2 ⟨rfl, hk⟩
  have HK2 := hid ((HK1.out.trans k1).trans hk); have HT2 := hid ((HT1.out.keep k1 (fun _ _ _ h => h)).keep hk (fun _ _ _ h => h)); have C2 := blk_keep C0 hk (fun h => h)
  clear hk HT1 HK1 E1 C0 k1
  go_wp2_with fail
  have C3 : Blk (w2.alloc (.cells #[.int .i64 0, .int .i64 0] 25)) w1.heap.size #[.int .i64 41, .int .i64 49] 25 := blk_alloc C2 _
  have k2 := keeps_alloc (fun _ => False) w2 (.cells #[.int .i64 0, .int .i64 0] 25)
  generalize World.alloc w2 _ = W2 at *
  have E1 : adv ⟨10, 20⟩ 7 5 = ⟨15, 29⟩ := by kernel_rfl
  refine (Advance_any ⟨10, 20⟩ 7 5 _ (by decide) (by decide) (by decide) (by decide) (by omega) (by omega) (by omega) (by omega)).mono ?_
  rw [E1]
  rintro e w3 ⟨rfl, hk⟩
  have HK3 := hid ((HK2.out.trans k2).trans hk); have HT3 := hid ((HT2.out.keep k2 (fun _ _ _ h => h)).keep hk (fun _ _ _ h => h)); have C4 := blk_keep C3 hk (fun h => h)
  clear hk HT2 HK2 E1 C2 C3 k2
  have g0 : w3.cell? ⟨w1.heap.size, 0, none⟩ = some (.int .i64 41) := blk_cell C4 0
  have g1 : w3.cell? ⟨w1.heap.size, 1, none⟩ = some (.int .i64 49) := blk_cell C4 1
  clear C4
  go_wp2_with fail
  refine (Unwrap_any 65530 3 _ (by omega) (by omega)).mono ?_
  rw [show unwr 65530 3 = 65539 by kernel_rfl]
  rintro e w4 ⟨rfl, rfl⟩
  clear g0 g1
  go_wp2_with fail
  refine (Judge_any ⟨5, 9⟩ 6 10 _).mono ?_
  rw [show judge ⟨5, 9⟩ 6 10 = -1 by kernel_rfl]
  rintro e w4 ⟨rfl, hk⟩
  have HK4 := hid (HK3.out.trans hk); have HT4 := hid (HT3.out.keep hk (fun _ _ _ h => h))
  clear hk HT3 HK3
  go_wp2_with fail
  refine (Judge_any ⟨5, 9⟩ 6 9 _).mono ?_
  rw [show judge ⟨5, 9⟩ 6 9 = 1 by kernel_rfl]
  rintro e w5 ⟨rfl, hk⟩
  have HK5 := hid (HK4.out.trans hk); have HT5 := hid (HT4.out.keep hk (fun _ _ _ h => h))
  clear hk HT4 HK4
  go_wp2_with fail
  refine (Civil_any _ exTab 100 _ _ HT5.out exTab_inc exTab_off (by decide) (by omega) (by omega)).mono ?_
  rw [show civ exTab 100 = 102 by kernel_rfl]
  rintro e w6 ⟨rfl, hk⟩
  have HK6 := hid (HK5.out.trans hk); have HT6 := hid (HT5.out.keep hk (fun _ _ _ h => h))
  clear hk HT5 HK5
  go_wp2_with fail
  refine (Ticks_any _ exTab 201 _ _ HT6.out exTab_inc exTab_off (by decide) (fun b hb _ => hb)).mono ?_
  rw [show tks exTab 201 = [199, 200] by kernel_rfl]
  rintro e w7 ⟨a7, n7, c7, rfl, hn7, ho7, hk⟩
  have HS7 := hid (row_sl ho7.row (by rw [hn7]; rfl)); have zx := hk.size
  have HK7 := hid (HK6.out.trans hk); have HT7 := hid (HT6.out.keep hk (fun _ _ _ h => h))
  clear hk HT6 HK6 ho7 hn7
  go_wp2_with fail
  have S8 := sl_two w7 199 200
  have k7 := keeps_alloc (fun _ => False) w7 (.cells #[.int .i64 199, .int .i64 200] 3)
  refine (SameInts_any _ _ _ _ [199, 200] [199, 200] _ (HS7.out.keep k7 (fun _ _ _ h => h)) S8 (by decide)).mono ?_
  rw [show decide (([199, 200] : List Int) = [199, 200]) = true by decide]
  rintro e w8 ⟨rfl, hd⟩
  have k8 := k7.trans (drawn_keeps _ hd)
  have HK8 := hid (HK7.out.trans k8); have HT8 := hid (HT7.out.keep k8 (fun _ _ _ h => h))
  clear k8 k7 hd HT7 HK7 S8 HS7
  go_wp2_with fail
  refine (CheckLeaps_any _ exTab _ _ HT8.out).mono ?_
  rw [show chk exTab = 0 by kernel_rfl]
  rintro e w9 ⟨rfl, hk⟩
  have HK9 := hid (HK8.out.trans hk)
  clear hk HT8 HK8
  go_wp2
  go_ret
  exact ⟨rfl, HK9.out⟩
end Go.Proofs.Ytjdalhnffhoknaa
