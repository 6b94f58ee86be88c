/- File: pieces, Answer, Cut. -/
import Derived.Test.YtgeicbjlichdgaaDoorFileA
namespace Go.Proofs.YtgeicbjlichdgaaDoor
open Go.RowKit
attribute [local go_sem ↓] Go.wp_at_zero Go.wp_at_succ
def SgRet (KD : Nat → Prop) (w : World) (l : List Seg) (r : Ending) (w' : World) : Prop := ∃ a n c, r = .returned (.slice a n c) ∧ n = l.length ∧ SgP KD w.heap.size w' (.slice a n c) l ∧ Keeps (fun _ => False) w w'
set_option maxRecDepth 100000 in set_option maxHeartbeats 1000000 in
theorem pieces_any (v : Value) (b : List Nat) (id lo u z : Int) (w : World) (hN : Cr.Nib w) (hv : Sl (fun k => k < w.heap.size) w v (u8s b)) (hb : ∀ c ∈ b, c < 256) (hm : b.length ≤ 65538) (h0 : 0 ≤ lo) (hu : u ≤ b.length) (h1 : 1 ≤ z ∧ z ≤ 256) :
    Calls Tryd.prog 42 #[.int .i64 id, v, .int .i64 lo, .int .i64 u, .int .i64 z] w fun e w' => SgRet (fun k => w.heap.size ≤ k) w (rangeS id b lo u z) e w' := by
  obtain ⟨i0, zz, hi, hz0, hz1, hz2, hz3⟩ := sg_parts
  obtain ⟨i8, hi8, hy0, hy1, hy2⟩ := info_u8
  have HN := hid hN; have HB := hid hb; have HV := hid hv
  obtain ⟨av, cv, rfl, _⟩ := hv.bytes
  clear hN hb hv
  generalize hbl : b.length = n at *
  have HBL := hid hbl; clear hbl
  go_enter Tryd.func42, Tryd.ntmps42
  go_wp2_with fail
  refine (Cr.Sum_any _ _ b _ HN.out HV.out HB.out (by rw [HBL.out]; omega)).mono ?_
  rintro e w1 ⟨rfl, rfl⟩
  go_wp2_with fail
  go_loopw [11, 13] (fun lv av wr => ∃ (acc : List Seg) (a0 : Int) (a : Option Addr) (c : Nat), lv = .slice a acc.length c ∧ av = .int .i64 a0 ∧ 0 ≤ a0 ∧ Hd (acc ++ rangeS id b a0 u z = rangeS id b lo u z) ∧ Hd (SgP (fun k => w.heap.size ≤ k) w.heap.size wr (.slice a acc.length c) acc) ∧ Hd (Keeps (fun _ => False) w wr)) (fun _ x _ => (u - intOf x).toNat)
  case atStart => exact ⟨[], lo, none, 0, rfl, rfl, h0, hid rfl, hid (SgP.nil _ _ _), hid (Keeps.refl _ _)⟩
  case round =>
    obtain ⟨acc, a0, a, c, rfl, rfl, ha0, HE, HP, HK⟩ := hrel
    have hal : acc.length ≤ n := by have h := rangeS_len (id := id) (b := b) (a := lo) (u := u) (z := z) h0 (by rw [HBL.out]; exact hu); rw [← HE.out, List.length_append, HBL.out] at h; omega
    by_cases hau : a0 < u
    · have d1 : decide (a0 < u) = true := by simp; exact hau
      have u1 : IntKind.i64.wrap (a0 + z) = a0 + z := IntWalk.i64_in _ (by omega)
      obtain ⟨x, hx⟩ : ∃ x : Seg, x = ⟨id, a0, b.length, Cr.crc b, (b.take (min (a0 + z) u).toNat).drop a0.toNat⟩ := ⟨_, rfl⟩
      have HX := hid hx
      have hstep := rangeS_step (id := id) (b := b) h1.1 hau
      rw [← hx] at hstep
      have HE2 : Hd ((acc ++ [x]) ++ rangeS id b (a0 + z) u z = rangeS id b lo u z) := hid (by rw [List.append_assoc, List.singleton_append, ← hstep]; exact HE.out)
      have zr := HK.out.size
      have HVR := hid (HV.out.keep HK.out (fun _ _ _ h => h))
      have HR : Hd (Row (fun k => k < w.heap.size) wr 1 (.slice av n cv) n (u8s b)) := hid (sl_row HVR.out (by rw [u8s_length, HBL.out]))
      clear hx hstep
      have main : ∀ (e : Int), e = min (a0 + z) u → True := fun _ _ => trivial
      rcases (show a0 + z < u ∨ a0 + z = u ∨ u < a0 + z by omega) with h | h | h
      · obtain ⟨p, hp⟩ : ∃ p : Nat, (p : Int) = a0 := ⟨a0.toNat, by omega⟩
        obtain ⟨q, hq⟩ : ∃ q : Nat, (q : Int) = (a0 + z) := ⟨((a0 + z)).toNat, by omega⟩
        obtain ⟨a2, c2, hcut, hr2⟩ := run_cut (P := Tryd.prog) (t := 22) Tryd.underlying22 hi8 hy1 HR.out (lo := a0) (hh := (a0 + z)) p q hp.symm hq.symm (by omega) (by omega)
        have hd : x.d = (b.drop p).take (q - p) := by rw [HX.out]; show (b.take (min (a0 + z) u).toNat).drop a0.toNat = _; rw [List.drop_take, show (min (a0 + z) u).toNat = q by omega, show a0.toNat = p by omega]
        have hl : q - p = x.d.length := by rw [hd, List.length_take, List.length_drop, HBL.out]; omega
        have hu8 : u8s x.d = ((u8s b).drop (p * 1)).take ((q - p) * 1) := by rw [hd, Nat.mul_one, Nat.mul_one]; simp [u8s, List.map_take, List.map_drop]
        have SX : Hd (Sl (fun k => k < w.heap.size) wr (.slice a2 x.d.length c2) (u8s x.d)) := hid (by rw [hu8, ← hl]; exact row_sl hr2 (by rw [← hu8, u8s_length, hl]))
        rw [hl] at hcut
        have hxd : x.d.length ≤ 256 := by omega
        have HXF : Hd (x.f = id ∧ x.o = a0 ∧ x.t = n ∧ x.s = Cr.crc b) := hid (by rw [HX.out]; exact ⟨rfl, rfl, by show (b.length : Int) = n; rw [HBL.out], rfl⟩)
        clear hr2 hd hl hu8 hp hq
        go_wp2_with fail
        refine (Cr.CloneB_any _ _ x.d _ SX.out (by omega)).mono ?_
        rintro e w2 ⟨a3, n3, c3, rfl, hn3, ho3, hk3⟩
        obtain rfl : n3 = x.d.length := by rw [hn3, u8s_length]
        have S3 : Hd (Sl (fun k => wr.heap.size ≤ k) w2 (.slice a3 x.d.length c3) (u8s x.d)) := hid (row_sl ho3.row (by rw [u8s_length]))
        obtain ⟨xs, hxo, hge, hxc⟩ := HP.out
        have HO := hid (hxo.keep hk3 (fun _ _ _ h => h)); have HGE := hid hge; have HXC := hid hxc; have K3 := hid hk3; have HLT : Hd (∀ b, (Value.slice a acc.length c).ownBlock = some b → b < wr.heap.size) := hid (fun b hb => (hxo.1.lt b hb).2)
        have z3 := hk3.size
        clear hxo hge hxc hn3 ho3 hk3 hcut HP
        have HC1 : Hd (∀ (W : World) (K : Nat → Prop), Sl K W (.slice a3 x.d.length c3) (u8s x.d) → SgC K W [.int .i64 id, .int .i64 a0, .int .i64 (n : Int), .int .u32 (Cr.crc b : Nat), .slice a3 x.d.length c3] [x]) := hid (fun W K h => by
  have e := SgC.one h
  rw [HXF.out.1, HXF.out.2.1, HXF.out.2.2.1, HXF.out.2.2.2] at e
  exact e)
        go_wp2_with (at_builtin; refine wpList_append_row rfl (.tmp 23) (.tmp 39) 23 rfl 44 i0 zz 5 56 Tryd.underlying23 hi hz0 hz1 hz2 hz3 (by decide) _ (fun _ => True) (.slice a acc.length c) _ acc.length xs rfl (HO.out.alloc _) 1 [.int .i64 id, .int .i64 a0, .int .i64 (n : Int), .int .u32 (Cr.crc b : Nat), .slice a3 x.d.length c3] rfl (by exact lit_rowF _ _ _ 1 5 rfl (by decide)) (by intro u hu; simp at hu; rcases hu with rfl | rfl | rfl | rfl | rfl <;> rfl) (by simp [maxLen]; omega) (by omega) ?_)
        intro a7 c7 w7 hown hk7; try intro _
        have HP7 : Hd (SgP (fun k => w.heap.size ≤ k) w.heap.size w7 (.slice a7 (acc.length + 1) c7) (acc ++ [x])) := hid (sgp_append (V := w2.alloc (.cells #[.int .i64 id, .int .i64 a0, .int .i64 (n : Int), .int .u32 (Cr.crc b : Nat), .slice a3 x.d.length c3] 44)) HGE.out HXC.out (K3.out.alloc _) ((HC1.out _ _ ((S3.out.keep (keeps_alloc (fun _ => False) _ _) (fun _ _ _ h => h)).mono (fun b _ h => ⟨by omega, fun e => by have := HLT.out b e; omega⟩)))) (by (try simp); omega) (hown.mono (fun b _ h => h.imp (fun h => h) (fun h => by rw [World.size_alloc]; exact h))) hk7)
        have K7 : Hd (Keeps (fun _ => False) w w7) := hid ((HK.out.trans (K3.out.alloc _)).trans' hk7 (fun i hi e => by have := HGE.out i e; omega))
        clear hown hk7 HO HGE HXC K3 HLT HC1 S3 SX
        go_wp2
        go_roundw
        case rel => exact ⟨acc ++ [x], a0 + z, a7, c7, by rw [List.length_append]; rfl, by first | rfl | (rw [h]), by omega, HE2, by rw [List.length_append]; exact HP7, K7⟩
        case measure => simp [intOf]; omega
      · have hz : z = u - a0 := by omega
        have e9 : a0 + z = u := h
        rw [e9] at u1
        have HE9 := hid e9; clear e9 hz
        obtain ⟨p, hp⟩ : ∃ p : Nat, (p : Int) = a0 := ⟨a0.toNat, by omega⟩
        obtain ⟨q, hq⟩ : ∃ q : Nat, (q : Int) = u := ⟨(u).toNat, by omega⟩
        obtain ⟨a2, c2, hcut, hr2⟩ := run_cut (P := Tryd.prog) (t := 22) Tryd.underlying22 hi8 hy1 HR.out (lo := a0) (hh := u) p q hp.symm hq.symm (by omega) (by omega)
        have hd : x.d = (b.drop p).take (q - p) := by rw [HX.out]; show (b.take (min (a0 + z) u).toNat).drop a0.toNat = _; rw [List.drop_take, show (min (a0 + z) u).toNat = q by omega, show a0.toNat = p by omega]
        have hl : q - p = x.d.length := by rw [hd, List.length_take, List.length_drop, HBL.out]; omega
        have hu8 : u8s x.d = ((u8s b).drop (p * 1)).take ((q - p) * 1) := by rw [hd, Nat.mul_one, Nat.mul_one]; simp [u8s, List.map_take, List.map_drop]
        have SX : Hd (Sl (fun k => k < w.heap.size) wr (.slice a2 x.d.length c2) (u8s x.d)) := hid (by rw [hu8, ← hl]; exact row_sl hr2 (by rw [← hu8, u8s_length, hl]))
        rw [hl] at hcut
        have hxd : x.d.length ≤ 256 := by omega
        have HXF : Hd (x.f = id ∧ x.o = a0 ∧ x.t = n ∧ x.s = Cr.crc b) := hid (by rw [HX.out]; exact ⟨rfl, rfl, by show (b.length : Int) = n; rw [HBL.out], rfl⟩)
        clear hr2 hd hl hu8 hp hq
        go_wp2_with fail
        refine (Cr.CloneB_any _ _ x.d _ SX.out (by omega)).mono ?_
        rintro e w2 ⟨a3, n3, c3, rfl, hn3, ho3, hk3⟩
        obtain rfl : n3 = x.d.length := by rw [hn3, u8s_length]
        have S3 : Hd (Sl (fun k => wr.heap.size ≤ k) w2 (.slice a3 x.d.length c3) (u8s x.d)) := hid (row_sl ho3.row (by rw [u8s_length]))
        obtain ⟨xs, hxo, hge, hxc⟩ := HP.out
        have HO := hid (hxo.keep hk3 (fun _ _ _ h => h)); have HGE := hid hge; have HXC := hid hxc; have K3 := hid hk3; have HLT : Hd (∀ b, (Value.slice a acc.length c).ownBlock = some b → b < wr.heap.size) := hid (fun b hb => (hxo.1.lt b hb).2)
        have z3 := hk3.size
        clear hxo hge hxc hn3 ho3 hk3 hcut HP
        have HC1 : Hd (∀ (W : World) (K : Nat → Prop), Sl K W (.slice a3 x.d.length c3) (u8s x.d) → SgC K W [.int .i64 id, .int .i64 a0, .int .i64 (n : Int), .int .u32 (Cr.crc b : Nat), .slice a3 x.d.length c3] [x]) := hid (fun W K h => by
  have e := SgC.one h
  rw [HXF.out.1, HXF.out.2.1, HXF.out.2.2.1, HXF.out.2.2.2] at e
  exact e)
        go_wp2_with (at_builtin; refine wpList_append_row rfl (.tmp 23) (.tmp 39) 23 rfl 44 i0 zz 5 56 Tryd.underlying23 hi hz0 hz1 hz2 hz3 (by decide) _ (fun _ => True) (.slice a acc.length c) _ acc.length xs rfl (HO.out.alloc _) 1 [.int .i64 id, .int .i64 a0, .int .i64 (n : Int), .int .u32 (Cr.crc b : Nat), .slice a3 x.d.length c3] rfl (by exact lit_rowF _ _ _ 1 5 rfl (by decide)) (by intro u hu; simp at hu; rcases hu with rfl | rfl | rfl | rfl | rfl <;> rfl) (by simp [maxLen]; omega) (by omega) ?_)
        intro a7 c7 w7 hown hk7; try intro _
        have HP7 : Hd (SgP (fun k => w.heap.size ≤ k) w.heap.size w7 (.slice a7 (acc.length + 1) c7) (acc ++ [x])) := hid (sgp_append (V := w2.alloc (.cells #[.int .i64 id, .int .i64 a0, .int .i64 (n : Int), .int .u32 (Cr.crc b : Nat), .slice a3 x.d.length c3] 44)) HGE.out HXC.out (K3.out.alloc _) ((HC1.out _ _ ((S3.out.keep (keeps_alloc (fun _ => False) _ _) (fun _ _ _ h => h)).mono (fun b _ h => ⟨by omega, fun e => by have := HLT.out b e; omega⟩)))) (by (try simp); omega) (hown.mono (fun b _ h => h.imp (fun h => h) (fun h => by rw [World.size_alloc]; exact h))) hk7)
        have K7 : Hd (Keeps (fun _ => False) w w7) := hid ((HK.out.trans (K3.out.alloc _)).trans' hk7 (fun i hi e => by have := HGE.out i e; omega))
        clear hown hk7 HO HGE HXC K3 HLT HC1 S3 SX
        go_wp2
        go_roundw
        case rel => exact ⟨acc ++ [x], a0 + z, a7, c7, by rw [List.length_append]; rfl, by first | rfl | (rw [h]), by omega, HE2, by rw [List.length_append]; exact HP7, K7⟩
        case measure => simp [intOf]; omega
      · obtain ⟨p, hp⟩ : ∃ p : Nat, (p : Int) = a0 := ⟨a0.toNat, by omega⟩
        obtain ⟨q, hq⟩ : ∃ q : Nat, (q : Int) = u := ⟨(u).toNat, by omega⟩
        obtain ⟨a2, c2, hcut, hr2⟩ := run_cut (P := Tryd.prog) (t := 22) Tryd.underlying22 hi8 hy1 HR.out (lo := a0) (hh := u) p q hp.symm hq.symm (by omega) (by omega)
        have hd : x.d = (b.drop p).take (q - p) := by rw [HX.out]; show (b.take (min (a0 + z) u).toNat).drop a0.toNat = _; rw [List.drop_take, show (min (a0 + z) u).toNat = q by omega, show a0.toNat = p by omega]
        have hl : q - p = x.d.length := by rw [hd, List.length_take, List.length_drop, HBL.out]; omega
        have hu8 : u8s x.d = ((u8s b).drop (p * 1)).take ((q - p) * 1) := by rw [hd, Nat.mul_one, Nat.mul_one]; simp [u8s, List.map_take, List.map_drop]
        have SX : Hd (Sl (fun k => k < w.heap.size) wr (.slice a2 x.d.length c2) (u8s x.d)) := hid (by rw [hu8, ← hl]; exact row_sl hr2 (by rw [← hu8, u8s_length, hl]))
        rw [hl] at hcut
        have hxd : x.d.length ≤ 256 := by omega
        have HXF : Hd (x.f = id ∧ x.o = a0 ∧ x.t = n ∧ x.s = Cr.crc b) := hid (by rw [HX.out]; exact ⟨rfl, rfl, by show (b.length : Int) = n; rw [HBL.out], rfl⟩)
        clear hr2 hd hl hu8 hp hq
        go_wp2_with fail
        refine (Cr.CloneB_any _ _ x.d _ SX.out (by omega)).mono ?_
        rintro e w2 ⟨a3, n3, c3, rfl, hn3, ho3, hk3⟩
        obtain rfl : n3 = x.d.length := by rw [hn3, u8s_length]
        have S3 : Hd (Sl (fun k => wr.heap.size ≤ k) w2 (.slice a3 x.d.length c3) (u8s x.d)) := hid (row_sl ho3.row (by rw [u8s_length]))
        obtain ⟨xs, hxo, hge, hxc⟩ := HP.out
        have HO := hid (hxo.keep hk3 (fun _ _ _ h => h)); have HGE := hid hge; have HXC := hid hxc; have K3 := hid hk3; have HLT : Hd (∀ b, (Value.slice a acc.length c).ownBlock = some b → b < wr.heap.size) := hid (fun b hb => (hxo.1.lt b hb).2)
        have z3 := hk3.size
        clear hxo hge hxc hn3 ho3 hk3 hcut HP
        have HC1 : Hd (∀ (W : World) (K : Nat → Prop), Sl K W (.slice a3 x.d.length c3) (u8s x.d) → SgC K W [.int .i64 id, .int .i64 a0, .int .i64 (n : Int), .int .u32 (Cr.crc b : Nat), .slice a3 x.d.length c3] [x]) := hid (fun W K h => by
  have e := SgC.one h
  rw [HXF.out.1, HXF.out.2.1, HXF.out.2.2.1, HXF.out.2.2.2] at e
  exact e)
        go_wp2_with (at_builtin; refine wpList_append_row rfl (.tmp 23) (.tmp 39) 23 rfl 44 i0 zz 5 56 Tryd.underlying23 hi hz0 hz1 hz2 hz3 (by decide) _ (fun _ => True) (.slice a acc.length c) _ acc.length xs rfl (HO.out.alloc _) 1 [.int .i64 id, .int .i64 a0, .int .i64 (n : Int), .int .u32 (Cr.crc b : Nat), .slice a3 x.d.length c3] rfl (by exact lit_rowF _ _ _ 1 5 rfl (by decide)) (by intro u hu; simp at hu; rcases hu with rfl | rfl | rfl | rfl | rfl <;> rfl) (by simp [maxLen]; omega) (by omega) ?_)
        intro a7 c7 w7 hown hk7; try intro _
        have HP7 : Hd (SgP (fun k => w.heap.size ≤ k) w.heap.size w7 (.slice a7 (acc.length + 1) c7) (acc ++ [x])) := hid (sgp_append (V := w2.alloc (.cells #[.int .i64 id, .int .i64 a0, .int .i64 (n : Int), .int .u32 (Cr.crc b : Nat), .slice a3 x.d.length c3] 44)) HGE.out HXC.out (K3.out.alloc _) ((HC1.out _ _ ((S3.out.keep (keeps_alloc (fun _ => False) _ _) (fun _ _ _ h => h)).mono (fun b _ h => ⟨by omega, fun e => by have := HLT.out b e; omega⟩)))) (by (try simp); omega) (hown.mono (fun b _ h => h.imp (fun h => h) (fun h => by rw [World.size_alloc]; exact h))) hk7)
        have K7 : Hd (Keeps (fun _ => False) w w7) := hid ((HK.out.trans (K3.out.alloc _)).trans' hk7 (fun i hi e => by have := HGE.out i e; omega))
        clear hown hk7 HO HGE HXC K3 HLT HC1 S3 SX
        go_wp2
        go_roundw
        case rel => exact ⟨acc ++ [x], a0 + z, a7, c7, by rw [List.length_append]; rfl, by first | rfl | (rw [h]), by omega, HE2, by rw [List.length_append]; exact HP7, K7⟩
        case measure => simp [intOf]; omega
    · have d1 : decide (a0 < u) = false := by simp; omega
      have HF : Hd (acc = rangeS id b lo u z) := hid (by have h := HE.out; rw [rangeS_end (by omega), List.append_nil] at h; exact h)
      have HR : Hd (SgRet (fun k => w.heap.size ≤ k) w (rangeS id b lo u z) (.returned (.slice a acc.length c)) wr) := hid ⟨a, _, c, rfl, by rw [HF.out], by rw [← HF.out]; exact HP.out, HK.out⟩
      clear HE HP HK HF
      go_wp2
      go_ret
      exact HR.out
end Go.Proofs.YtgeicbjlichdgaaDoor
