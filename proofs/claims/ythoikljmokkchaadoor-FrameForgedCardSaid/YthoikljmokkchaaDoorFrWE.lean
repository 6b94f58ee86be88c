/- Frame: a world begins; histories; FrameOrder walked. -/
import Derived.Test.YthoikljmokkchaaDoorFrWD
import Derived.Test.YthoikljmokkchaaDoorFrV
import Derived.Test.YthoikljmokkchaaDoorFrHist
import Derived.Deep.DrawnRows
namespace Go.Proofs.YthoikljmokkchaaDoor
open Go.RowKit
attribute [local go_sem ↓] Go.wp_at_zero Go.wp_at_succ
theorem wr_begin {K : Nat → Prop} {X : World} {key : Nat} (hK : K X.heap.size) :
    WR K (fun _ => True) (X.alloc (.cells #[.slice none 0 0, .int .i64 0, .int .u64 (key : Int), .int .i64 0, .int .i64 0, .slice none 0 0, .bool false, .int .u64 (key : Int), .int .i64 0, .slice none 0 0, .slice none 0 0, .slice none 0 0] 60)) X.heap.size (beginM key) none 0 none 0 none 0 none 0 none 0 := by
  refine ⟨blk_new _ _ _, Bds.nil _ _, Frs.nil _ _, ⟨[], Own.nil _ _ _ _, FrL.nil _ _⟩, ⟨[], Own.nil _ _ _ _, RpL.nil⟩, ⟨[], Own.nil _ _ _ _, BdL.nil _ _⟩, fun b h => by simp [Value.ownBlock] at h, fun b h => by simp [Value.ownBlock] at h, fun b h => by simp [Value.ownBlock] at h, fun b h => ?_⟩
  rcases h with rfl | h | h | h
  · exact hK
  · simp [Value.ownBlock] at h
  · simp [Value.ownBlock] at h
  · simp [Value.ownBlock] at h
set_option maxRecDepth 100000 in
set_option maxHeartbeats 4000000 in
theorem begin_any (key : Nat) (w : World) :
    Calls Tryd.prog 30 #[.int .u64 (key : Int)] w fun e w' => ∃ p, e = .returned (.pointer (some ⟨p, 0, none⟩)) ∧ WRx (fun b => w.heap.size ≤ b) (fun _ => True) w' p (beginM key) ∧ Keeps (fun _ => False) w w' := by
  go_enter Tryd.func30, Tryd.ntmps30
  go_wp2_with fail
  refine (NewSender_any key _).mono ?_
  rintro e w1 ⟨rfl, h1⟩
  go_wp2_with fail
  refine (NewReceiver_any key _).mono ?_
  rintro e w2 ⟨rfl, h2⟩
  go_wp2
  go_ret
  have z1 := h1.size; have z2 := h2.size
  exact ⟨_, rfl, ⟨_, _, _, _, _, _, _, _, _, _, wr_begin (by omega)⟩, (h1.trans h2).alloc _⟩
def hist (key : Nat) (l : List AC) (i : Nat) : WM := (l.take i).foldl actM (beginM key)
theorem hist_next {key : Nat} {l : List AC} {i : Nat} {x : AC} (h : l[i]? = some x) : hist key l (i + 1) = actM (hist key l i) x := by
  unfold hist; rw [List.take_add_one, h, List.foldl_append]; rfl
theorem hist_ok {key : Nat} {l : List AC} (hkey : key < 18446744073709551616) (hx : ∀ x ∈ l, AcOk x) : ∀ i, i ≤ 121 → i ≤ l.length → WInv key (hist key l i) i ∧ WOk (hist key l i) i := by
  intro i
  induction i with
  | zero => intro _ _; exact ⟨winv_begin key, wok_begin hkey⟩
  | succ i ih =>
    intro h1 h2
    obtain ⟨g1, g2⟩ := ih (by omega) (by omega)
    have hi : i < l.length := h2
    rw [hist_next (List.getElem?_eq_getElem hi)]
    exact ⟨winv_act g1 (by omega), wok_act g1 g2 (by omega) (hx _ (List.getElem_mem hi)).b⟩
end Go.Proofs.YthoikljmokkchaaDoor
