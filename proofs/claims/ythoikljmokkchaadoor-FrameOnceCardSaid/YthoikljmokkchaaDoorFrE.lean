/- Frame: cloned. -/
import Derived.Test.YthoikljmokkchaaDoorFrD
namespace Go.Proofs.YthoikljmokkchaaDoor
open Go.RowKit
theorem bdl_sub {K K' : Nat → Prop} {w : World} {xs : List Value} {l : List (List Nat)} (h : BdL K w xs l) (hd : ∀ b, b < w.heap.size → K b → K' b) : BdL K' w xs l := h.mono hd
set_option maxRecDepth 100000 in
set_option maxHeartbeats 1000000 in
theorem cloned_any (K : Nat → Prop) (v : Value) (l : List (List Nat)) (w : World) (hv : Bds K w v l) (hl : l.length ≤ 1000000) (hx : ∀ x ∈ l, x.length ≤ 1000000) :
    Calls Tryd.prog 73 #[v] w fun e w' => ∃ a c, e = .returned (.slice a l.length c) ∧ BdP (fun k => w.heap.size ≤ k) w.heap.size w' (.slice a l.length c) l ∧ Keeps (fun _ => False) w w' := by
  obtain ⟨i0, hi, hz0, hz1, hz2⟩ := parts1 infoBd
  obtain ⟨a, cap, rfl, h1, h2⟩ := hv.form
  unfold maxLen at h2
  have HV := hid (hv.mono (K' := fun _ => True) (fun _ _ _ => trivial)); have HX := hid hx
  clear hv hx
  obtain ⟨n, hn⟩ : ∃ n, l.length = n := ⟨_, rfl⟩
  have HN := hid hn
  rw [hn] at HV h1 hl ⊢
  clear hn
  go_enter Tryd.func73, Tryd.ntmps73
  go_wp2_with fail
  go_loopw [3, 8] (fun ov iv wr => ∃ (k : Nat) (a2 : Option Addr) (c2 : Nat), ov = .slice a2 k c2 ∧ iv = .int .i64 (k : Int) ∧ k ≤ n ∧ Hd (BdP (fun b => w.heap.size ≤ b) w.heap.size wr (.slice a2 k c2) (l.take k)) ∧ Hd (Keeps (fun _ => False) w wr)) (fun _ iv _ => n - (intOf iv).toNat)
  case atStart => exact ⟨0, none, 0, rfl, rfl, Nat.zero_le _, hid (by rw [List.take_zero]; exact BdP.nil _ _ _), hid (Keeps.refl _ _)⟩
  case round =>
    obtain ⟨V, rfl⟩ : ∃ V, V = wr := ⟨_, rfl⟩
    obtain ⟨k, a2, c2, rfl, rfl, hk, HO, HK⟩ := hrel
    by_cases hlt : k < n
    · have q1 : (k : Int) < n := by omega
      have q2 : (0 : Int) ≤ k := by omega
      obtain ⟨bx, ox, rfl, -, -, hc⟩ := bds_cells HV.out (by rw [HN.out]; omega)
      have hkl : k < l.length := by rw [HN.out]; exact hlt
      obtain ⟨x, hxk⟩ : ∃ x, l[k]? = some x := ⟨l[k], List.getElem?_eq_getElem hkl⟩
      obtain ⟨ad, cd, hcell0, hsx⟩ := hc k x hxk
      have hcell := keep_cell HK.out (fun h => h) hcell0
      have HSX : Hd (Sl (fun _ => True) V (.slice ad x.length cd) (u8s x)) := hid (hsx.keep HK.out (fun _ _ _ h => h))
      have hxl : x.length ≤ 1000000 := HX.out x (List.mem_of_getElem? hxk)
      have HTK : Hd (l.take (k + 1) = l.take k ++ [x]) := hid (by rw [List.take_add_one, hxk]; rfl)
      have HKL : Hd ((l.take k).length = k) := hid (by rw [List.length_take]; omega)
      clear hc hcell0 hsx hxk hkl
      go_wp2_with fail
      refine (Wi.CloneB_any _ _ x _ HSX.out (by omega)).mono ?_
      rintro e V1 ⟨a4, n4, c4, rfl, hn4, ho4, hk4⟩
      have HN4 : Hd (n4 = x.length) := hid (by rw [hn4, u8s_length])
      have HS4 : Hd (Sl (fun b => V.heap.size ≤ b ∧ b < V1.heap.size) V1 (.slice a4 n4 c4) (u8s x)) := hid (row_sl (ho4.row.mono (fun b hb h => ⟨h, hb⟩)) hn4.symm)
      have HK4 := hid hk4
      have z4 := hk4.size
      have zV := HK.out.size
      obtain ⟨xs, hO, hge, hB⟩ := HO.out
      rw [HKL.out] at hO
      have HOX := hid (hO.keep hk4 (fun _ _ _ h => h)); have HGE := hid hge; have HBX := hid (hB.keep hk4 (fun _ _ _ h => h))
      have HLT : Hd (∀ b, (Value.slice a2 k c2).ownBlock = some b → b < V.heap.size) := hid (fun b hb => by
        rcases hO.1.2 with ⟨h, _⟩ | ⟨g, cap, cur, h, _, h3, _⟩
        · rw [h] at hb; simp [Value.ownBlock] at hb
        · rw [h] at hb; injection hb with hb; subst hb; exact (Array.getElem?_eq_some_iff.1 h3).1)
      clear hn4 ho4 hk4 hO hge hB HO
      go_wp2_with (at_builtin; refine wpList_append_row rfl _ _ 43 rfl 22 i0 (.slice none 0 0) 1 24 Tryd.underlying43 hi hz0 hz1 hz2 rfl (by decide) _ (fun _ => True) _ _ _ _ rfl (HOX.out.alloc _) 1 _ rfl (one_src _ _ _) (by intro u hu; simp at hu; subst hu; rfl) ?h1 ?h2 ?_)
      case h1 => simp [maxLen]; omega
      case h2 => omega
      intro a3 c3 w1 hown hgrow; try intro _
      have HO1 : Hd (BdP (fun b => w.heap.size ≤ b) w.heap.size w1 (.slice a3 (k + 1) c3) (l.take (k + 1))) := hid (by
        rw [HTK.out]
        refine bdp_append (v := .slice a2 k c2) (ns := [.slice a4 n4 c4]) HGE.out HBX.out (keeps_alloc _ _ (.cells #[.slice a4 n4 c4] 22)) (BdL.one ((HS4.out.keep (keeps_alloc (fun _ => False) _ _) (fun _ _ _ h => h)).mono (fun b _ h => ⟨by omega, fun e => by have := HLT.out b e; omega⟩))) (by simp; omega) ?_ (by first | exact hgrow | exact hgrow.mono (fun _ _ h => h))
        rw [HKL.out]
        first | exact hown | simpa using hown)
      have HK1 : Hd (Keeps (fun _ => False) w w1) := hid ((HK.out.trans HK4.out).trans' ((keeps_alloc _ _ (.cells #[.slice a4 n4 c4] 22)).trans hgrow) (fun i hi h => by have := HGE.out i h; omega))
      clear hown hgrow
      go_wp2
      go_roundw
      case rel => exact ⟨k + 1, a3, c3, by first | rfl | go_num, by go_num, by omega, HO1, HK1⟩
      case measure => simp [intOf]; omega
    · have hkn : k = n := by omega
      have q1 : ¬ ((k : Int) < n) := by omega
      have HT : Hd (l.take k = l) := hid (List.take_of_length_le (by rw [HN.out, hkn]; exact Nat.le_refl _))
      rw [HT.out] at HO
      subst hkn
      go_wp2
      go_ret
      exact ⟨a2, c2, rfl, HO.out, HK.out⟩
end Go.Proofs.YthoikljmokkchaaDoor
