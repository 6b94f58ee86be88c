/- The walk of flip. -/
import Derived.Test.YtegdlgnofbjjcaaDoorCrcT
import Derived.Test.YtegdlgnofbjjcaaDoorCrcS
import Derived.Laws.OwnMore
namespace Go.Proofs.YtegdlgnofbjjcaaDoor
open Go.RowKit
attribute [local go_sem ↓] Go.wp_at_zero Go.wp_at_succ
set_option maxRecDepth 100000 in set_option maxHeartbeats 1000000 in
theorem flip_any (K : Nat → Prop) (v : Value) (l : List Nat) (k : Nat) (w : World) (hv : Sl K w v (u8s l)) (hl : ∀ c ∈ l, c < 256) (hm : l.length ≤ 1000000) (hk : k < 8 * l.length) :
    Calls Tryd.prog 25 #[v, .int .i64 k] w fun e w' => NewRet w 5 (u8s (flipped l k)) e w' := by
  obtain ⟨i0, hi, hz0, hz1, hz2⟩ := info_parts infoU8
  have HL := hid hl; have HV : Hd (Sl (fun b => b < w.heap.size) w v (u8s l)) := hid (hv.mono (fun b h _ => h))
  obtain ⟨a, cap, rfl, q1, q2, q3⟩ := hv.bytes
  clear hl hv q3
  unfold maxLen at q2
  have HF : Hd (u8s (flipped l k) = (u8s l).set (k / 8) (.int .u8 (l.getD (k / 8) 0 ^^^ 2 ^ (k % 8) : Nat))) := hid (by simp [flipped, u8s, List.map_set])
  have HG := hid (getD_lt HL.out (k / 8))
  have HP := hid (pow8_lt k)
  have HGD := hid (u8s_getD l (k / 8) (by omega))
  generalize hll : l.length = n at *
  have HLL := hid hll; clear hll
  have HO := hid (own_empty w)
  have HS : Hd (Sl (fun b => b < w.heap.size) (w.alloc (.cells #[] 5)) (.slice a n cap) (u8s l)) := hid (HV.out.keep (keeps_alloc (fun _ => False) w (.cells #[] 5)) (fun _ _ _ h => h))
  go_enter Tryd.func25, Tryd.ntmps25
  go_wp2_with (at_builtin; refine wpList_append_row rfl _ _ 22 rfl 5 i0 (.int .u8 0) 1 1 Tryd.underlying22 hi hz0 hz1 hz2 rfl (by decide) _ (fun b => b < w.heap.size) _ _ _ _ rfl HO.out n _ rfl (sl_row HS.out (by simp [HLL.out])) (u8s_one _) ?h1 ?h2 ?_)
  case h1 => simp [maxLen]; omega
  case h2 => omega
  intro a3 c3 w1 hown hgrow; try intro _
  try simp only [Nat.zero_add, List.nil_append] at hown
  try simp only [Nat.zero_add]
  have K1 : Hd (Keeps (fun _ => False) w w1) := hid (keeps_app hgrow)
  have hown2 := hown.mono (K' := fun k => w.heap.size ≤ k) (fun b _ hh => by rcases hh with hh | hh <;> (try simp at hh) <;> omega)
  clear hown hgrow HS HO
  obtain ⟨g, rfl⟩ : ∃ g, a3 = some ⟨g, 0, none⟩ := by
    rcases hown2.1.2 with ⟨h, h0⟩ | ⟨g, cap, cur, h, _⟩
    · omega
    · exact ⟨g, by injection h with h _⟩
  have hg : w.heap.size ≤ g := hown2.2 g rfl
  have hc : w1.cell? ⟨g, k / 8, none⟩ = some (.int .u8 (l.getD (k / 8) 0 : Nat)) := by
    rw [hown2.1.cellAt (k / 8) (by omega)]
    have := HGD.out
    rw [← this, List.getD, List.getElem?_eq_getElem (by simp [HLL.out]; omega)]; rfl
  have hf : w1.frozen? ⟨g, k / 8, none⟩ = false := hown2.1.frozenAt _
  have HST := hid (hown2.1.stored (k / 8) (.int .u8 (l.getD (k / 8) 0 ^^^ 2 ^ (k % 8) : Nat)))
  clear hown2
  generalize l.getD (k / 8) 0 = c at *
  have hx : bits BinOp.xor IntKind.u8 (c : Int) (2 ^ (k % 8) % 256) = ((c ^^^ 2 ^ (k % 8) : Nat) : Int) := by
    have h1 := u8_xor_nat c (2 ^ (k % 8)) HG.out HP.out
    have h2 : ((2 : Int) ^ (k % 8) % 256) = ((2 ^ (k % 8) : Nat) : Int) := by
      have hp : 2 ^ (k % 8) < 256 := HP.out
      rw [show ((2 : Int) ^ (k % 8)) = ((2 ^ (k % 8) : Nat) : Int) by simp]
      generalize 2 ^ (k % 8) = m at hp ⊢
      omega
    rw [h2]; exact h1
  have HX := hid hx; clear hx
  go_wp2
  go_ret
  rw [HX.out]
  have hs := HST.out
  have K2 := K1.out
  refine ⟨_, n, c3, rfl, by rw [u8s_length, flipped_len, HLL.out], ⟨by rw [HF.out]; exact hs.1, fun b hb => by injection hb with hb; simp at hb; omega⟩, K2.trans' (keeps_set (fun k => w.heap.size ≤ k) w1 _ _ hg) (fun i hi hs => by omega)⟩
end Go.Proofs.YtegdlgnofbjjcaaDoor
