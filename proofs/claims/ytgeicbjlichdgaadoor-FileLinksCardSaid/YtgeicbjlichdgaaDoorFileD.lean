/- File: the reference's Range, Cut, Answer; Same. -/
import Derived.Test.YtgeicbjlichdgaaDoorFileC
import Derived.Test.YtgeicbjlichdgaaDoorCrcD
import Derived.Test.YtgeicbjlichdgaaDoorCrcE
import Derived.Deep.RegionHeldLaw
namespace Go.Proofs.YtgeicbjlichdgaaDoor
open Go.RowKit
attribute [local go_sem ↓] Go.wp_at_zero Go.wp_at_succ
def SgRetK (KD : Nat → Prop) (w : World) (l : List Seg) (r : Ending) (w' : World) : Prop := ∃ a n c, r = .returned (.slice a n c) ∧ n = l.length ∧ SgP KD w.heap.size w' (.slice a n c) l ∧ Keeps (fun _ => False) w w'
set_option maxRecDepth 100000 in set_option maxHeartbeats 1000000 in
theorem refRange_any (KA : Nat → Prop) (v : Value) (b : List Nat) (id lo u z : Int) (w : World) (hv : Sl (fun k => KA k ∧ k < w.heap.size) w v (u8s b)) (hb : ∀ c ∈ b, c < 256) (hm : b.length ≤ 65538) (h0 : 0 ≤ lo) (hu : u ≤ b.length) (h1 : 1 ≤ z ∧ z ≤ 256) :
    Calls Tryd.prog 41 #[.int .i64 id, v, .int .i64 lo, .int .i64 u, .int .i64 z] w fun e w' => SgRetK KA w (rangeS id b lo u z) e w' := by
  obtain ⟨i0, zz, hi, hz0, hz1, hz2, hz3⟩ := sg_parts
  obtain ⟨i8, hi8, hy0, hy1, hy2⟩ := info_u8
  have HB := hid hb; have HV := hid hv
  obtain ⟨av, cv, rfl, _⟩ := hv.bytes
  clear hb hv
  generalize hbl : b.length = n at *
  have HBL := hid hbl; clear hbl
  go_enter Tryd.func41, Tryd.ntmps41
  go_wp2_with fail
  refine (Cr.RSum_any _ _ b _ HV.out HB.out (by rw [HBL.out]; omega)).mono ?_
  rintro e w1 ⟨rfl, rfl⟩
  go_wp2_with fail
  go_loopw [11, 13] (fun lv av wr => ∃ (acc : List Seg) (a0 : Int) (a : Option Addr) (c : Nat), lv = .slice a acc.length c ∧ av = .int .i64 a0 ∧ 0 ≤ a0 ∧ Hd (acc ++ rangeS id b a0 u z = rangeS id b lo u z) ∧ Hd (SgP KA w.heap.size wr (.slice a acc.length c) acc) ∧ Hd (Keeps (fun _ => False) w wr)) (fun _ x _ => (u - intOf x).toNat)
  case atStart => exact ⟨[], lo, none, 0, rfl, rfl, h0, hid rfl, hid (SgP.nil _ _ _), hid (Keeps.refl _ _)⟩
  case round =>
    obtain ⟨acc, a0, a, c, rfl, rfl, ha0, HE, HP, HK⟩ := hrel
    have hal : acc.length ≤ n := by have h := rangeS_len (id := id) (b := b) (a := lo) (u := u) (z := z) h0 (by rw [HBL.out]; exact hu); rw [← HE.out, List.length_append, HBL.out] at h; omega
    by_cases hau : a0 < u
    · have d1 : decide (a0 < u) = true := by simp; exact hau
      have u1 : IntKind.i64.wrap (a0 + z) = a0 + z := IntWalk.i64_in _ (by omega)
      obtain ⟨x, hx⟩ : ∃ x : Seg, x = ⟨id, a0, b.length, Cr.crc b, (b.take (min (a0 + z) u).toNat).drop a0.toNat⟩ := ⟨_, rfl⟩
      have HX := hid hx
      have hstep := rangeS_step (id := id) (b := b) h1.1 hau
      rw [← hx] at hstep
      have HE2 : Hd ((acc ++ [x]) ++ rangeS id b (a0 + z) u z = rangeS id b lo u z) := hid (by rw [List.append_assoc, List.singleton_append, ← hstep]; exact HE.out)
      have zr := HK.out.size
      have HVR := hid (HV.out.keep HK.out (fun _ _ _ h => h))
      have HR : Hd (Row (fun k => KA k ∧ k < w.heap.size) wr 1 (.slice av n cv) n (u8s b)) := hid (sl_row HVR.out (by rw [u8s_length, HBL.out]))
      clear hx hstep
      rcases (show a0 + z < u ∨ a0 + z = u ∨ u < a0 + z by omega) with h | h | h
      · obtain ⟨p, hp⟩ : ∃ p : Nat, (p : Int) = a0 := ⟨a0.toNat, by omega⟩
        obtain ⟨q, hq⟩ : ∃ q : Nat, (q : Int) = (a0 + z) := ⟨((a0 + z)).toNat, by omega⟩
        obtain ⟨a2, c2, hcut, hr2⟩ := run_cut (P := Tryd.prog) (t := 22) Tryd.underlying22 hi8 hy1 HR.out (lo := a0) (hh := (a0 + z)) p q hp.symm hq.symm (by omega) (by omega)
        have hd : x.d = (b.drop p).take (q - p) := by rw [HX.out]; show (b.take (min (a0 + z) u).toNat).drop a0.toNat = _; rw [List.drop_take, show (min (a0 + z) u).toNat = q by omega, show a0.toNat = p by omega]
        have hl : q - p = x.d.length := by rw [hd, List.length_take, List.length_drop, HBL.out]; omega
        have hu8 : u8s x.d = ((u8s b).drop (p * 1)).take ((q - p) * 1) := by rw [hd, Nat.mul_one, Nat.mul_one]; simp [u8s, List.map_take, List.map_drop]
        have S3 : Hd (Sl (fun k => KA k ∧ k < w.heap.size) wr (.slice a2 x.d.length c2) (u8s x.d)) := hid (by rw [hu8, ← hl]; exact row_sl hr2 (by rw [← hu8, u8s_length, hl]))
        rw [hl] at hcut
        have hxd : x.d.length ≤ 256 := by omega
        have HXF : Hd (x.f = id ∧ x.o = a0 ∧ x.t = n ∧ x.s = Cr.crc b) := hid (by rw [HX.out]; exact ⟨rfl, rfl, by show (b.length : Int) = n; rw [HBL.out], rfl⟩)
        clear hr2 hd hl hu8 hp hq
        obtain ⟨xs, hxo, hge, hxc⟩ := HP.out
        have HO := hid hxo; have HGE := hid hge; have HXC := hid hxc; have HLT : Hd (∀ b, (Value.slice a acc.length c).ownBlock = some b → b < wr.heap.size) := hid (fun b hb => (hxo.1.lt b hb).2)
        clear hxo hge hxc HP
        have HC1 : Hd (∀ (W : World) (K : Nat → Prop), Sl K W (.slice a2 x.d.length c2) (u8s x.d) → SgC K W [.int .i64 id, .int .i64 a0, .int .i64 (n : Int), .int .u32 (Cr.crc b : Nat), .slice a2 x.d.length c2] [x]) := hid (fun W K h => by
            have e := SgC.one h
            rw [HXF.out.1, HXF.out.2.1, HXF.out.2.2.1, HXF.out.2.2.2] at e
            exact e)
        go_wp2_with (at_builtin; refine wpList_append_row rfl (.tmp 29) (.tmp 40) 23 rfl 44 i0 zz 5 56 Tryd.underlying23 hi hz0 hz1 hz2 hz3 (by decide) _ (fun _ => True) (.slice a acc.length c) _ acc.length xs rfl (HO.out.alloc _) 1 [.int .i64 id, .int .i64 a0, .int .i64 (n : Int), .int .u32 (Cr.crc b : Nat), .slice a2 x.d.length c2] rfl (by exact lit_rowF _ _ _ 1 5 rfl (by decide)) (by intro u hu; simp at hu; rcases hu with rfl | rfl | rfl | rfl | rfl <;> rfl) (by simp [maxLen]; omega) (by omega) ?_)
        intro a7 c7 w7 hown hk7; try intro _
        have HP7 : Hd (SgP KA w.heap.size w7 (.slice a7 (acc.length + 1) c7) (acc ++ [x])) := hid (sgp_append (V := wr.alloc (.cells #[.int .i64 id, .int .i64 a0, .int .i64 (n : Int), .int .u32 (Cr.crc b : Nat), .slice a2 x.d.length c2] 44)) HGE.out HXC.out (keeps_alloc _ _ _) ((HC1.out _ _ ((S3.out.keep (keeps_alloc (fun _ => False) _ _) (fun _ _ _ h => h)).mono (fun b _ h => ⟨h.1, fun e => by have := HGE.out b e; omega⟩)))) (by (try simp); omega) (hown.mono (fun b _ h => h.imp (fun h => h) (fun h => by rw [World.size_alloc]; exact h))) hk7)
        have K7 : Hd (Keeps (fun _ => False) w w7) := hid ((HK.out.alloc _).trans' hk7 (fun i hi e => by have := HGE.out i e; omega))
        clear hown hk7 HO HGE HXC HLT HC1 S3 hcut
        go_wp2
        go_roundw
        case rel => exact ⟨acc ++ [x], a0 + z, a7, c7, by rw [List.length_append]; rfl, by first | rfl | (rw [h]), by omega, HE2, by rw [List.length_append]; exact HP7, K7⟩
        case measure => simp [intOf]; omega
      · have hz : z = u - a0 := by omega
        have e9 : a0 + z = u := h
        rw [e9] at u1
        have HE9 := hid e9; clear e9 hz
        obtain ⟨p, hp⟩ : ∃ p : Nat, (p : Int) = a0 := ⟨a0.toNat, by omega⟩
        obtain ⟨q, hq⟩ : ∃ q : Nat, (q : Int) = u := ⟨(u).toNat, by omega⟩
        obtain ⟨a2, c2, hcut, hr2⟩ := run_cut (P := Tryd.prog) (t := 22) Tryd.underlying22 hi8 hy1 HR.out (lo := a0) (hh := u) p q hp.symm hq.symm (by omega) (by omega)
        have hd : x.d = (b.drop p).take (q - p) := by rw [HX.out]; show (b.take (min (a0 + z) u).toNat).drop a0.toNat = _; rw [List.drop_take, show (min (a0 + z) u).toNat = q by omega, show a0.toNat = p by omega]
        have hl : q - p = x.d.length := by rw [hd, List.length_take, List.length_drop, HBL.out]; omega
        have hu8 : u8s x.d = ((u8s b).drop (p * 1)).take ((q - p) * 1) := by rw [hd, Nat.mul_one, Nat.mul_one]; simp [u8s, List.map_take, List.map_drop]
        have S3 : Hd (Sl (fun k => KA k ∧ k < w.heap.size) wr (.slice a2 x.d.length c2) (u8s x.d)) := hid (by rw [hu8, ← hl]; exact row_sl hr2 (by rw [← hu8, u8s_length, hl]))
        rw [hl] at hcut
        have hxd : x.d.length ≤ 256 := by omega
        have HXF : Hd (x.f = id ∧ x.o = a0 ∧ x.t = n ∧ x.s = Cr.crc b) := hid (by rw [HX.out]; exact ⟨rfl, rfl, by show (b.length : Int) = n; rw [HBL.out], rfl⟩)
        clear hr2 hd hl hu8 hp hq
        obtain ⟨xs, hxo, hge, hxc⟩ := HP.out
        have HO := hid hxo; have HGE := hid hge; have HXC := hid hxc; have HLT : Hd (∀ b, (Value.slice a acc.length c).ownBlock = some b → b < wr.heap.size) := hid (fun b hb => (hxo.1.lt b hb).2)
        clear hxo hge hxc HP
        have HC1 : Hd (∀ (W : World) (K : Nat → Prop), Sl K W (.slice a2 x.d.length c2) (u8s x.d) → SgC K W [.int .i64 id, .int .i64 a0, .int .i64 (n : Int), .int .u32 (Cr.crc b : Nat), .slice a2 x.d.length c2] [x]) := hid (fun W K h => by
            have e := SgC.one h
            rw [HXF.out.1, HXF.out.2.1, HXF.out.2.2.1, HXF.out.2.2.2] at e
            exact e)
        go_wp2_with (at_builtin; refine wpList_append_row rfl (.tmp 29) (.tmp 40) 23 rfl 44 i0 zz 5 56 Tryd.underlying23 hi hz0 hz1 hz2 hz3 (by decide) _ (fun _ => True) (.slice a acc.length c) _ acc.length xs rfl (HO.out.alloc _) 1 [.int .i64 id, .int .i64 a0, .int .i64 (n : Int), .int .u32 (Cr.crc b : Nat), .slice a2 x.d.length c2] rfl (by exact lit_rowF _ _ _ 1 5 rfl (by decide)) (by intro u hu; simp at hu; rcases hu with rfl | rfl | rfl | rfl | rfl <;> rfl) (by simp [maxLen]; omega) (by omega) ?_)
        intro a7 c7 w7 hown hk7; try intro _
        have HP7 : Hd (SgP KA w.heap.size w7 (.slice a7 (acc.length + 1) c7) (acc ++ [x])) := hid (sgp_append (V := wr.alloc (.cells #[.int .i64 id, .int .i64 a0, .int .i64 (n : Int), .int .u32 (Cr.crc b : Nat), .slice a2 x.d.length c2] 44)) HGE.out HXC.out (keeps_alloc _ _ _) ((HC1.out _ _ ((S3.out.keep (keeps_alloc (fun _ => False) _ _) (fun _ _ _ h => h)).mono (fun b _ h => ⟨h.1, fun e => by have := HGE.out b e; omega⟩)))) (by (try simp); omega) (hown.mono (fun b _ h => h.imp (fun h => h) (fun h => by rw [World.size_alloc]; exact h))) hk7)
        have K7 : Hd (Keeps (fun _ => False) w w7) := hid ((HK.out.alloc _).trans' hk7 (fun i hi e => by have := HGE.out i e; omega))
        clear hown hk7 HO HGE HXC HLT HC1 S3 hcut
        go_wp2
        go_roundw
        case rel => exact ⟨acc ++ [x], a0 + z, a7, c7, by rw [List.length_append]; rfl, by first | rfl | (rw [h]), by omega, HE2, by rw [List.length_append]; exact HP7, K7⟩
        case measure => simp [intOf]; omega
      · obtain ⟨p, hp⟩ : ∃ p : Nat, (p : Int) = a0 := ⟨a0.toNat, by omega⟩
        obtain ⟨q, hq⟩ : ∃ q : Nat, (q : Int) = u := ⟨(u).toNat, by omega⟩
        obtain ⟨a2, c2, hcut, hr2⟩ := run_cut (P := Tryd.prog) (t := 22) Tryd.underlying22 hi8 hy1 HR.out (lo := a0) (hh := u) p q hp.symm hq.symm (by omega) (by omega)
        have hd : x.d = (b.drop p).take (q - p) := by rw [HX.out]; show (b.take (min (a0 + z) u).toNat).drop a0.toNat = _; rw [List.drop_take, show (min (a0 + z) u).toNat = q by omega, show a0.toNat = p by omega]
        have hl : q - p = x.d.length := by rw [hd, List.length_take, List.length_drop, HBL.out]; omega
        have hu8 : u8s x.d = ((u8s b).drop (p * 1)).take ((q - p) * 1) := by rw [hd, Nat.mul_one, Nat.mul_one]; simp [u8s, List.map_take, List.map_drop]
        have S3 : Hd (Sl (fun k => KA k ∧ k < w.heap.size) wr (.slice a2 x.d.length c2) (u8s x.d)) := hid (by rw [hu8, ← hl]; exact row_sl hr2 (by rw [← hu8, u8s_length, hl]))
        rw [hl] at hcut
        have hxd : x.d.length ≤ 256 := by omega
        have HXF : Hd (x.f = id ∧ x.o = a0 ∧ x.t = n ∧ x.s = Cr.crc b) := hid (by rw [HX.out]; exact ⟨rfl, rfl, by show (b.length : Int) = n; rw [HBL.out], rfl⟩)
        clear hr2 hd hl hu8 hp hq
        obtain ⟨xs, hxo, hge, hxc⟩ := HP.out
        have HO := hid hxo; have HGE := hid hge; have HXC := hid hxc; have HLT : Hd (∀ b, (Value.slice a acc.length c).ownBlock = some b → b < wr.heap.size) := hid (fun b hb => (hxo.1.lt b hb).2)
        clear hxo hge hxc HP
        have HC1 : Hd (∀ (W : World) (K : Nat → Prop), Sl K W (.slice a2 x.d.length c2) (u8s x.d) → SgC K W [.int .i64 id, .int .i64 a0, .int .i64 (n : Int), .int .u32 (Cr.crc b : Nat), .slice a2 x.d.length c2] [x]) := hid (fun W K h => by
            have e := SgC.one h
            rw [HXF.out.1, HXF.out.2.1, HXF.out.2.2.1, HXF.out.2.2.2] at e
            exact e)
        go_wp2_with (at_builtin; refine wpList_append_row rfl (.tmp 29) (.tmp 40) 23 rfl 44 i0 zz 5 56 Tryd.underlying23 hi hz0 hz1 hz2 hz3 (by decide) _ (fun _ => True) (.slice a acc.length c) _ acc.length xs rfl (HO.out.alloc _) 1 [.int .i64 id, .int .i64 a0, .int .i64 (n : Int), .int .u32 (Cr.crc b : Nat), .slice a2 x.d.length c2] rfl (by exact lit_rowF _ _ _ 1 5 rfl (by decide)) (by intro u hu; simp at hu; rcases hu with rfl | rfl | rfl | rfl | rfl <;> rfl) (by simp [maxLen]; omega) (by omega) ?_)
        intro a7 c7 w7 hown hk7; try intro _
        have HP7 : Hd (SgP KA w.heap.size w7 (.slice a7 (acc.length + 1) c7) (acc ++ [x])) := hid (sgp_append (V := wr.alloc (.cells #[.int .i64 id, .int .i64 a0, .int .i64 (n : Int), .int .u32 (Cr.crc b : Nat), .slice a2 x.d.length c2] 44)) HGE.out HXC.out (keeps_alloc _ _ _) ((HC1.out _ _ ((S3.out.keep (keeps_alloc (fun _ => False) _ _) (fun _ _ _ h => h)).mono (fun b _ h => ⟨h.1, fun e => by have := HGE.out b e; omega⟩)))) (by (try simp); omega) (hown.mono (fun b _ h => h.imp (fun h => h) (fun h => by rw [World.size_alloc]; exact h))) hk7)
        have K7 : Hd (Keeps (fun _ => False) w w7) := hid ((HK.out.alloc _).trans' hk7 (fun i hi e => by have := HGE.out i e; omega))
        clear hown hk7 HO HGE HXC HLT HC1 S3 hcut
        go_wp2
        go_roundw
        case rel => exact ⟨acc ++ [x], a0 + z, a7, c7, by rw [List.length_append]; rfl, by first | rfl | (rw [h]), by omega, HE2, by rw [List.length_append]; exact HP7, K7⟩
        case measure => simp [intOf]; omega
    · have d1 : decide (a0 < u) = false := by simp; omega
      have HF : Hd (acc = rangeS id b lo u z) := hid (by have h := HE.out; rw [rangeS_end (by omega), List.append_nil] at h; exact h)
      have HR : Hd (SgRetK KA w (rangeS id b lo u z) (.returned (.slice a acc.length c)) wr) := hid ⟨a, _, c, rfl, by rw [HF.out], by rw [← HF.out]; exact HP.out, HK.out⟩
      clear HE HP HK HF
      go_wp2
      go_ret
      exact HR.out
theorem empty_ret (KD : Nat → Prop) (id : Int) (w : World) : SgRetK KD w [⟨id, 0, 0, 0, []⟩] (.returned (.slice (some ⟨w.heap.size, 0, none⟩) 1 1)) (w.alloc (.cells #[.int .i64 id, .int .i64 0, .int .i64 0, .int .u32 0, .slice none 0 0] 44)) :=
  ⟨_, 1, 1, rfl, rfl, ⟨[.int .i64 id, .int .i64 0, .int .i64 0, .int .u32 0, .slice none 0 0], ⟨World.ownsRow_lit (base := 0) (e := 44) w #[.int .i64 id, .int .i64 0, .int .i64 0, .int .u32 0, .slice none 0 0] 1 (Nat.zero_le _) (by decide) rfl, fun _ h => h⟩, fun b hb => by injection hb with hb; simp at hb; omega, SgC.one (x := ⟨id, 0, 0, 0, []⟩) (Sl.nil _ _)⟩, keeps_alloc _ _ _⟩
set_option maxRecDepth 100000 in set_option maxHeartbeats 1000000 in
theorem refempty_any (KD : Nat → Prop) (id : Int) (w : World) :
    Calls Tryd.prog 40 #[.int .i64 id] w fun e w' => SgRetK KD w [⟨id, 0, 0, 0, []⟩] e w' := by
  go_enter Tryd.func40, Tryd.ntmps40
  go_wp2_with fail
  refine (Cr.RSum_any (fun _ => True) _ [] _ (Sl.nil _ _) (by simp) (by simp)).mono ?_
  rw [show Cr.crc [] = 0 from by kernel_rfl]
  rintro e wx ⟨rfl, rfl⟩
  go_wp2
  go_ret
  exact empty_ret KD id w
/-- Cut of the reference is Cut -/
theorem cutL_ref (id : Int) (b : List Nat) (z : Int) : cutL id b z = if fitsL b z ≠ 0 then [] else if b = [] then [⟨id, 0, 0, 0, []⟩] else rangeS id b 0 b.length z := by
  unfold cutL
  split
  · rfl
  · rename_i h
    unfold answerL
    rw [if_neg (by simp at h ⊢; exact h)]
    split
    · rfl
    · simp only [List.flatMap_cons, List.flatMap_nil, List.append_nil]
      unfold gapR
      congr 1 <;> (simp)
set_option maxRecDepth 100000 in set_option maxHeartbeats 1000000 in
theorem refCut_any (KA : Nat → Prop) (v : Value) (b : List Nat) (id z : Int) (w : World) (hv : Sl (fun k => KA k ∧ k < w.heap.size) w v (u8s b)) (hb : ∀ c ∈ b, c < 256) (hm : b.length ≤ 65538) :
    Calls Tryd.prog 14 #[.int .i64 id, v, .int .i64 z] w fun e w' => ∃ a n c, e = .returned (.tuple #[.slice a n c, .int .i64 (fitsL b z)]) ∧ n = (cutL id b z).length ∧ SgP KA w.heap.size w' (.slice a n c) (cutL id b z) ∧ Keeps (fun _ => False) w w' := by
  have HB := hid hb; have HV := hid hv
  obtain ⟨av, cv, rfl, _⟩ := hv.bytes
  clear hb hv
  have HREF := hid (cutL_ref id b z)
  obtain ⟨A, hA⟩ : ∃ A, cutL id b z = A := ⟨_, rfl⟩
  rw [hA] at HREF ⊢
  clear hA
  have HFI : Hd (fitsL b z = if z < 1 ∨ 256 < z then 1 else if 65536 < b.length then 2 else 0) := hid rfl
  obtain ⟨F, hF⟩ : ∃ F, fitsL b z = F := ⟨_, rfl⟩
  rw [hF] at HREF HFI ⊢
  clear hF
  generalize hbl : b.length = n at *
  have HBL := hid hbl; clear hbl
  have hz0 : z < 1 ∨ 256 < z ∨ (1 ≤ z ∧ z ≤ 256) := by omega
  go_enter Tryd.func14, Tryd.ntmps14
  have bad : ∀ (e : Int), F = e → e ≠ 0 → ∃ a n c, Ending.returned (.tuple #[.slice none 0 0, .int .i64 e]) = .returned (.tuple #[.slice a n c, .int .i64 F]) ∧ n = A.length ∧ SgP KA w.heap.size w (.slice a n c) A ∧ Keeps (fun _ => False) w w := fun e h1 h2 => by
    have e3 : A = [] := by rw [HREF.out, if_pos (by rw [h1]; exact h2)]
    rw [e3, h1]
    exact ⟨none, 0, 0, rfl, rfl, SgP.nil _ _ _, Keeps.refl _ _⟩
  have BAD := hid bad; clear bad
  rcases hz0 with h | h | h
  · have d1 : decide (z < 1) = true := by simp; exact h
    have HR := hid (BAD.out 1 (by rw [HFI.out, if_pos (.inl h)]) (by omega))
    clear h
    go_wp2
    go_ret2
    exact HR.out
  · have d1 : decide (z < 1) = false := by simp; omega
    have d2 : decide (256 < z) = true := by simp; exact h
    have HR := hid (BAD.out 1 (by rw [HFI.out, if_pos (.inr h)]) (by omega))
    clear h
    go_wp2
    go_ret2
    exact HR.out
  · have d1 : decide (z < 1) = false := by simp; omega
    have d2 : decide (256 < z) = false := by simp; omega
    have HZ := hid h
    have HNF : Hd (¬ (z < 1 ∨ 256 < z)) := hid (by omega)
    clear h
    by_cases h3 : 65536 < n
    · have d3 : decide ((65536 : Int) < n) = true := by simp; omega
      have HR := hid (BAD.out 2 (by rw [HFI.out, if_neg HNF.out, if_pos h3]) (by omega))
      clear h3
      go_wp2
      go_ret2
      exact HR.out
    · have d3 : decide ((65536 : Int) < n) = false := by simp; omega
      obtain rfl : F = 0 := by rw [HFI.out, if_neg HNF.out, if_neg h3]
      clear h3
      by_cases h4 : n = 0
      · have d4 : ((n : Int) == 0) = true := by simp; omega
        have HE : Hd (A = [⟨id, 0, 0, 0, []⟩]) := hid (by rw [HREF.out, if_neg (by simp), if_pos (List.eq_nil_of_length_eq_zero (by rw [HBL.out]; exact h4))])
        clear h4
        go_wp2_with fail
        refine (refempty_any KA id w).mono ?_
        rintro e w2 ⟨a3, n3, c3, rfl, hn3, hp3, hk3⟩
        rw [← HE.out] at hn3 hp3
        have HR : Hd (∃ a n c, Ending.returned (.tuple #[.slice a3 n3 c3, .int .i64 0]) = .returned (.tuple #[.slice a n c, .int .i64 0]) ∧ n = A.length ∧ SgP KA w.heap.size w2 (.slice a n c) A ∧ Keeps (fun _ => False) w w2) := hid ⟨a3, n3, c3, rfl, hn3, hp3, hk3⟩
        clear hn3 hp3 hk3 HE
        go_wp2
        go_ret2
        exact HR.out
      · have d4 : ((n : Int) == 0) = false := by simp; omega
        have HE : Hd (A = rangeS id b 0 n z) := hid (by rw [HREF.out, if_neg (by simp), if_neg (fun h => by rw [h] at HBL; exact h4 HBL.out.symm)])
        clear h4
        go_wp2_with fail
        refine (refRange_any KA _ b id 0 n z w HV.out HB.out (by rw [HBL.out]; exact hm) (Int.le_refl _) (by rw [HBL.out]; omega) HZ.out).mono ?_
        rintro e w2 ⟨a3, n3, c3, rfl, hn3, hp3, hk3⟩
        rw [← HE.out] at hn3 hp3
        have HR : Hd (∃ a n c, Ending.returned (.tuple #[.slice a3 n3 c3, .int .i64 0]) = .returned (.tuple #[.slice a n c, .int .i64 0]) ∧ n = A.length ∧ SgP KA w.heap.size w2 (.slice a n c) A ∧ Keeps (fun _ => False) w w2) := hid ⟨a3, n3, c3, rfl, hn3, hp3, hk3⟩
        clear hn3 hp3 hk3 HE
        go_wp2
        go_ret2
        exact HR.out
end Go.Proofs.YtgeicbjlichdgaaDoor
