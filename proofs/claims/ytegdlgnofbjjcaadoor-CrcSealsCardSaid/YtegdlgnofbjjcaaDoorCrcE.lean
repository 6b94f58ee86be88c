/- Contract of the reference Open. -/
import Derived.Test.YtegdlgnofbjjcaaDoorCrcD
import Derived.Deep.RegionWith
import Derived.Deep.Cut
namespace Go.Proofs.YtegdlgnofbjjcaaDoor
open Go.RowKit
attribute [local go_sem ↓] Go.wp_at_zero Go.wp_at_succ
theorem ba_loop (bs : ByteArray) : ∀ (n i : Nat) (r : List UInt8), bs.size - i = n → ByteArray.toList.loop bs i r = r.reverse ++ bs.data.toList.drop i := by
  intro n
  induction n with
  | zero =>
    intro i r h
    rw [ByteArray.toList.loop, if_neg (by omega), List.drop_eq_nil_of_le (by show bs.data.toList.length ≤ i; rw [Array.length_toList]; show bs.size ≤ i; omega)]
    simp
  | succ n ih =>
    intro i r h
    have hi : i < bs.size := by omega
    have hi2 : i < bs.data.toList.length := by rw [Array.length_toList]; exact hi
    rw [ByteArray.toList.loop, if_pos hi, ih (i+1) _ (by omega), List.drop_eq_getElem_cons hi2]
    have : bs.get! i = bs.data.toList[i] := by
      have h3 : i < bs.data.size := hi
      show bs.data[i]! = _
      rw [getElem!_pos bs.data i h3]; simp
    rw [this]; simp
theorem ba_inj {a b : ByteArray} (h : a.toList = b.toList) : a = b := by
  have e : ∀ s : ByteArray, s.toList = s.data.toList := fun s => by rw [ByteArray.toList, ba_loop s _ 0 [] rfl]; simp
  rw [e, e] at h
  cases a; cases b; congr; exact Array.toList_inj.mp h

set_option maxRecDepth 100000 in set_option maxHeartbeats 1000000 in
theorem ROpen_any (K : Nat → Prop) (v : Value) (l : List Nat) (w : World) (hv : Sl K w v (u8s l)) (hl : ∀ c ∈ l, c < 256) (hm : l.length ≤ 900000000) :
    Calls Tryd.prog 22 #[v] w fun e w' => OpenRet l w e w' := by
  have HL := hid hl; have HV : Hd (Sl (fun b => b < w.heap.size) w v (u8s l)) := hid (hv.mono (fun b h _ => h))
  obtain ⟨i0, hi, hz0, hz1, hz2⟩ := info_parts infoU8
  obtain ⟨a, cap, rfl, q1, q2, q3⟩ := hv.bytes
  clear hl hv q3
  unfold maxLen at q2
  by_cases h4 : l.length < 4
  · have HE := hid (opened_short h4)
    generalize hll : l.length = n at *
    clear hll
    go_enter Tryd.func22, Tryd.ntmps22
    go_wp2
    go_ret2
    refine ⟨none, 0, 0, ?_, by rw [HE.out]; rfl, by rw [HE.out]; exact Own.nil _ _ _ _, Keeps.refl _ _⟩
    rw [HE.out]; rfl
  · obtain ⟨k, hk⟩ : ∃ k, l.length = k + 4 := ⟨l.length - 4, by omega⟩
    have HROW : Row (fun b => b < w.heap.size) w 1 (.slice a l.length cap) l.length (u8s l) := sl_row HV.out (by simp)
    have HT := hid (crc_lt (take_lt HL.out k))
    have HY : Hd (le4 (crc (l.take k)) = l.drop k → opened l = (l.take k, 0)) := hid (fun h => by have := opened_yes h4; rw [hk] at this; exact this h)
    have HNO : Hd (¬ le4 (crc (l.take k)) = l.drop k → opened l = ([], 8)) := hid (fun h => by have := opened_no h4; rw [hk] at this; exact this h)
    have HTL : Hd ((l.take k).length = k) := hid (by rw [List.length_take]; omega)
    have HDL : Hd ((l.drop k).length = 4) := hid (by rw [List.length_drop]; omega)
    have HLT := hid (take_lt HL.out k)
    rw [hk] at HROW HV q1 hm h4 ⊢
    obtain ⟨a2, c2, hcut2, hrow2⟩ := run_cut_to (P := Tryd.prog) (t := 22) Tryd.underlying22 hi hz1 HROW (hh := ((k + 4 : Nat) : Int) - 4) k (by omega) (by omega)
    obtain ⟨a3, c3, hcut3, hrow3⟩ := run_cut_from (P := Tryd.prog) (t := 22) Tryd.underlying22 hi hz1 HROW (lo := ((k + 4 : Nat) : Int) - 4) k (by omega) (by omega)
    have e1 : ((k + 4 : Nat) : Int) - 4 = k := by omega
    have e2 : ((k : Int) + 4) - 4 = k := by omega
    rw [e1] at hcut2 hcut3
    have e3 : k + 4 - k = 4 := by omega
    rw [e3] at hcut3 hrow3
    have S2 : Hd (Sl (fun b => b < w.heap.size) w (.slice a2 k c2) (u8s (l.take k))) := hid (by
      have := hrow2; rw [show (u8s l).take (k * 1) = u8s (l.take k) by simp [u8s, List.map_take]] at this
      exact row_sl this (by rw [u8s_length]; exact HTL.out))
    have S3 : Hd (Sl (fun b => b < w.heap.size) w (.slice a3 4 c3) (u8s (l.drop k))) := hid (by
      have := hrow3; rw [show ((u8s l).drop (k * 1)).take (4 * 1) = u8s (l.drop k) by rw [List.take_of_length_le (by simp; omega)]; simp [u8s, List.map_drop]] at this
      exact row_sl this (by rw [u8s_length]; exact HDL.out))
    clear hrow2 hrow3 HROW hk
    have hk9 : k ≤ 900000000 := by omega
    have HDLT : Hd (∀ c ∈ l.drop k, c < 256) := hid (fun c hc => HL.out c (List.mem_of_mem_drop hc))
    have cv0 := conv_sl (S3.out.keep (Keeps.drew (Keeps.refl (fun _ => False) w)) (fun _ _ _ h => h)) HDLT.out
    by_cases hq : le4 (crc (l.take k)) = l.drop k
    · have HE := hid (HY.out hq)
      have hs : ((str (le4 (crc (l.take k)))).toList == (str (l.drop k)).toList) = true := by rw [hq, beq_self_eq_true]
      clear hq HY HNO
      go_enter Tryd.func22, Tryd.ntmps22
      go_upto_region 4 with fail
      go_region_with (first | (go_at_call 15; refine (RSum_any (fun b => b < w.heap.size) _ (l.take k) _ (by exact S2.out) HLT.out (by rw [HTL.out]; omega)).mono ?_; rintro e w1 ⟨rfl, rfl⟩) | (go_at_call 41; refine (RBytes4_any _ _ HT.out).mono ?_; rintro e w1 ⟨a1, n1, c1, rfl, hn1, ho1, hk1⟩; have cv2 := conv_sl (own_sl ho1 hn1) (le4_lt _); have cv3 := conv_sl (S3.out.keep (Keeps.trans (Keeps.drew (Keeps.refl (fun _ => False) w)) hk1) (fun _ _ _ h => h)) HDLT.out; replace hn1 := hid hn1; replace ho1 := hid ho1; replace hk1 := hid hk1))
      all_goals
        have HKW : Hd (Keeps (fun _ => False) w w1) := hid ((Keeps.trans (Keeps.drew (Keeps.refl (fun _ => False) w)) hk1.out))
        clear cv2 cv3 cv0 hs hn1 ho1 hk1
        have HO : Hd (Own (fun k => w1.heap.size ≤ k) (w1.alloc (.cells #[] 5)) 5 1 (.slice (some ⟨w1.heap.size, 0, none⟩) 0 0) 0 []) :=
          hid ⟨World.ownsRow_lit w1 #[] 0 (Nat.zero_le _) (Nat.zero_le _) rfl, fun k hk => by injection hk with hk; simp at hk; omega⟩
        have HS : Hd (Sl (fun b => b < w1.heap.size) (w1.alloc (.cells #[] 5)) (.slice a2 k c2) (u8s (l.take k))) := hid (((S2.out.keep HKW.out (fun _ _ _ h => h)).mono (fun b _ hb => Nat.lt_of_lt_of_le hb HKW.out.size)).keep (keeps_alloc (fun _ => False) w1 (.cells #[] 5)) (fun _ _ _ h => h))
        go_wp2_with (at_builtin; refine wpList_append_row rfl _ _ 22 rfl 5 i0 (.int .u8 0) 1 1 Tryd.underlying22 hi hz0 hz1 hz2 rfl (by decide) _ (fun b => b < w1.heap.size) _ _ _ _ rfl HO.out k _ rfl (sl_row HS.out (by simp [HTL.out])) (u8s_one _) ?h1 ?h2 ?_)
        case h1 => simp [maxLen]; omega
        case h2 => omega
        intro a4 cap4 w4 hown' hgrow; try intro _
        try simp only [Nat.zero_add, List.nil_append] at hown'
        have HR : Hd (OpenRet l w (.returned (.tuple #[.slice a4 k cap4, .int .i64 0])) w4) := hid ⟨a4, k, cap4, by rw [HE.out], by rw [HE.out]; exact HTL.out.symm, by
          rw [HE.out]; exact hown'.mono (fun b _ hh => by have := HKW.out.size; rcases hh with hh | hh <;> omega), HKW.out.trans ((keeps_alloc _ w1 _).after (hgrow.mono (fun i hi h => h)))⟩
        clear hown' hgrow
        go_wp2
        go_ret2
        exact HR.out
    · have HE := hid (HNO.out hq)
      have hs : ((str (le4 (crc (l.take k)))).toList == (str (l.drop k)).toList) = false := by
        rw [beq_eq_false_iff_ne]
        intro he
        exact hq (str_inj (le4_lt _) HDLT.out (ba_inj he))
      clear hq HY HNO
      go_enter Tryd.func22, Tryd.ntmps22
      go_upto_region 4 with fail
      go_region_with (first | (go_at_call 15; refine (RSum_any (fun b => b < w.heap.size) _ (l.take k) _ (by exact S2.out) HLT.out (by rw [HTL.out]; omega)).mono ?_; rintro e w1 ⟨rfl, rfl⟩) | (go_at_call 41; refine (RBytes4_any _ _ HT.out).mono ?_; rintro e w1 ⟨a1, n1, c1, rfl, hn1, ho1, hk1⟩; have cv2 := conv_sl (own_sl ho1 hn1) (le4_lt _); have cv3 := conv_sl (S3.out.keep (Keeps.trans (Keeps.drew (Keeps.refl (fun _ => False) w)) hk1) (fun _ _ _ h => h)) HDLT.out; replace hn1 := hid hn1; replace ho1 := hid ho1; replace hk1 := hid hk1))
      all_goals
        have HKW : Hd (Keeps (fun _ => False) w w1) := hid ((Keeps.trans (Keeps.drew (Keeps.refl (fun _ => False) w)) hk1.out))
        clear cv2 cv3 cv0 hs hn1 ho1 hk1
        have HR : Hd (OpenRet l w (.returned (.tuple #[.slice none 0 0, .int .i64 8])) w1) := hid ⟨none, 0, 0, by rw [HE.out], by rw [HE.out]; rfl, by rw [HE.out]; exact Own.nil _ _ _ _, HKW.out⟩
        go_wp2
        go_ret2
        exact HR.out
end Go.Proofs.YtegdlgnofbjjcaaDoor
