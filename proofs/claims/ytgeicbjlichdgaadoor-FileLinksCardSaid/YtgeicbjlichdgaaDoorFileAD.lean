/- File: packed and unpacked. -/
import Derived.Test.YtgeicbjlichdgaaDoorFileQ
import Derived.Test.YtgeicbjlichdgaaDoorHeld
import Derived.Test.YtgeicbjlichdgaaDoorCrcC
import Derived.Test.YtgeicbjlichdgaaDoorCrcOS
import Derived.Test.YtgeicbjlichdgaaDoorCrcT
import Derived.Test.YtgeicbjlichdgaaDoorWirePk
namespace Go.Proofs.YtgeicbjlichdgaaDoor
open Go.RowKit
attribute [local go_sem ↓] Go.wp_at_zero Go.wp_at_succ
def pk (x : Seg) : List Nat := Wi.encL [x.f, x.o, x.t, (x.s : Int)] ++ Wi.encB x.d
structure PkOk (x : Seg) : Prop where
  r : ∀ n ∈ [x.f, x.o, x.t, (x.s : Int)], -9223372036854775808 ≤ n ∧ n ≤ 9223372036854775807
  s : x.s < 4294967296
  d : ∀ c ∈ x.d, c < 256
  n : x.d.length ≤ 256
theorem pk_lt {x : Seg} (h : PkOk x) : ∀ c ∈ pk x, c < 256 := by
  intro c hc
  unfold pk Wi.encB at hc
  rcases List.mem_append.1 hc with hc | hc
  · exact Wi.packed_lt _ c hc
  · rcases List.mem_append.1 hc with hc | hc
    · exact Wi.enc_lt _ _ hc
    · exact h.d c hc
theorem pk_len {x : Seg} (h : PkOk x) : (pk x).length ≤ 1000 := by
  unfold pk Wi.encL Wi.encB
  rw [List.length_append, List.length_append, List.length_append]
  have h1 := Wi.enc_len10 (n := [x.f, x.o, x.t, (x.s : Int)].length) (by simp)
  have h2 := Wi.flatMap_len [x.f, x.o, x.t, (x.s : Int)] h.r
  have h3 := Wi.enc_len10 (n := x.d.length) (by have := h.n; omega)
  have h4 := h.n
  simp at h1 h2 ⊢; omega
theorem pk_ints {x : Seg} (h : PkOk x) : Wi.sL 4 (0, pk x) = ((0, Wi.encB x.d), [x.f, x.o, x.t, (x.s : Int)]) := Wi.sL_enc _ (by simp) h.r (by simp)
theorem pk_bytes {x : Seg} (h : PkOk x) : Wi.sB 256 (0, Wi.encB x.d) = ((0, []), x.d) := by
  unfold Wi.sB Wi.encB
  rw [Wi.sSize_enc x.d (by have := h.n; omega) (by have := h.n; omega)]
  simp
theorem sEnd_nil : Wi.sEnd (0, []) = 0 := by simp [Wi.sEnd]
theorem rowc1 {K : Nat → Prop} {w : World} {b o n c : Nat} {xs : List Value} (h : Row K w 1 (.slice (some ⟨b, o, none⟩) n c) n xs) (h0 : 0 < n) : K b ∧ b < w.heap.size ∧ ∀ k, k < n → w.cell? ⟨b, o + k, none⟩ = some (xs.getD k undef) := by
  obtain ⟨a', c', e, _, _, hel⟩ := h.form
  injection e with e1 e2 e3
  subst e1
  obtain ⟨b', o', ea, hK, hb, hcell⟩ := hel (by omega)
  injection ea with ea
  injection ea with e4 e5 _
  subst e4 e5
  exact ⟨hK, hb, fun k hk => hcell k (by omega)⟩
theorem row_some {K : Nat → Prop} {w : World} {a : Option Addr} {n c : Nat} {xs : List Value} (h : Row K w 1 (.slice a n c) n xs) (h0 : 0 < n) : ∃ b o, a = some ⟨b, o, none⟩ := by
  obtain ⟨a', c', e, _, _, hel⟩ := h.form
  injection e with e1 e2 e3
  subst e1
  obtain ⟨b', o', ea, _⟩ := hel (by omega)
  exact ⟨b', o', ea⟩
theorem sl_four (w : World) (x y z u : Int) : Sl (fun k => k = w.heap.size) (w.alloc (.cells #[.int .i64 x, .int .i64 y, .int .i64 z, .int .i64 u] 3)) (.slice (some ⟨w.heap.size, 0, none⟩) 4 4) (i64s [x, y, z, u]) := by
  refine ⟨rfl, .inr ⟨_, 4, rfl, Nat.le_refl 4, by decide, fun _ => ⟨w.heap.size, 0, rfl, rfl, by simp, fun j hj => ?_⟩⟩⟩
  have hB := blk_new w #[.int .i64 x, .int .i64 y, .int .i64 z, .int .i64 u] 3
  rw [Nat.zero_add, blk_cell hB]
  have h4 : j < 4 := hj
  rcases j with _ | _ | _ | _ | j
  · rfl
  · rfl
  · rfl
  · rfl
  · omega
theorem fin5 {w W : World} {b : Nat} {T : TypeId} {c0 c1 c2 c3 c4 : Value} (hk : Keeps (fun _ => False) w W) (hb : w.heap.size ≤ b) (hB : Blk W b #[c0, c1, c2, c3, c4] T) (u0 u1 u2 u3 u4 : Value) :
    Keeps (fun _ => False) w (((((W.setCell ⟨b, 0, none⟩ u0).setCell ⟨b, 1, none⟩ u1).setCell ⟨b, 2, none⟩ u2).setCell ⟨b, 3, none⟩ u3).setCell ⟨b, 4, none⟩ u4) ∧
    Blk (((((W.setCell ⟨b, 0, none⟩ u0).setCell ⟨b, 1, none⟩ u1).setCell ⟨b, 2, none⟩ u2).setCell ⟨b, 3, none⟩ u3).setCell ⟨b, 4, none⟩ u4) b #[u0, u1, u2, u3, u4] T := by
  have h := blk_set (blk_set (blk_set (blk_set (blk_set hB 0 u0) 1 u1) 2 u2) 3 u3) 4 u4
  simp only [List.setIfInBounds_toArray, List.set_cons_zero, List.set_cons_succ] at h
  exact ⟨((((hk.setCell (.inr hb) _).setCell (.inr hb) _).setCell (.inr hb) _).setCell (.inr hb) _).setCell (.inr hb) _, h⟩
theorem keep5 (w : World) (b : Nat) (u0 u1 u2 u3 u4 : Value) : Keeps (fun i => i = b) w (((((w.setCell ⟨b, 0, none⟩ u0).setCell ⟨b, 1, none⟩ u1).setCell ⟨b, 2, none⟩ u2).setCell ⟨b, 3, none⟩ u3).setCell ⟨b, 4, none⟩ u4) :=
  keq (keq (keq (keq (keq (Keeps.refl _ _) _ _) _ _) _ _) _ _) _ _
set_option maxRecDepth 100000 in set_option maxHeartbeats 1000000 in
theorem packed_any (x : Seg) (a : Option Addr) (c : Nat) (w : World) (hN : Cr.Nib w) (hx : Sl (fun b => b < w.heap.size) w (.slice a x.d.length c) (u8s x.d)) (ho : PkOk x) :
    Calls Tryd.prog 37 #[.agg #[.int .i64 x.f, .int .i64 x.o, .int .i64 x.t, .int .u32 (x.s : Int), .slice a x.d.length c]] w fun e w' => Cr.NewRet w 5 (u8s (Cr.seal_ (pk x))) e w' := by
  have HN : Hd (NibF w) := hid hN
  have HX := hid hx; have HPO := hid ho
  have hs : IntKind.i64.wrap (x.s : Int) = (x.s : Int) := IntWalk.i64_in _ (by have := ho.s; omega)
  have hs2 : wrap64 (x.s : Int) = (x.s : Int) := by unfold wrap64; have := ho.s; omega
  have HXL : Hd (x.d.length ≤ 256) := hid ho.n
  clear hN hx ho
  go_enter Tryd.func37, Tryd.ntmps37
  go_upto_region 1 with fail
  generalize hW : World.alloc w _ = W1
  have KS : Hd (Keeps (fun _ => False) w W1) := hid (by rw [← hW]; exact (Keeps.alloc (Keeps.refl (fun _ => False) w) _))
  have HN' : Hd (NibF W1) := hid (HN.out.keep KS.out (fun _ _ _ h => h))
  have HX' : Hd (Sl (fun b => b < w.heap.size) W1 (.slice a x.d.length c) (u8s x.d)) := hid (HX.out.keep KS.out (fun _ _ _ h => h))
  have BX : Hd (Blk W1 w.heap.size #[(.int .i64 x.f), (.int .i64 x.o), (.int .i64 x.t), (.int .u32 (x.s : Int)), (.slice a x.d.length c)] 44) := hid (by rw [← hW]; exact (blk_new _ _ _))
  clear HN HX
  have HN := HN'
  clear HN'
  have HX := HX'
  clear HX'
  have HK : Hd (Keeps (fun _ => False) w W1) := hid KS.out
  have z_W1 : w.heap.size + 1 ≤ W1.heap.size := by rw [← hW]; simp
  clear hW KS
  go_upto_region 2 with fail
  generalize hW : World.alloc W1 _ = W2
  have HBF : Hd (Wi.BufAt W2 W1.heap.size []) := hid (by rw [← hW]; exact Wi.BufAt.new _ _)
  have hk : Keeps (fun _ => False) W1 W2 := by rw [← hW]; exact keeps_alloc _ _ _
  have zb := HBF.out.lt
  clear hW
  have HN' : Hd (NibF W2) := hid (HN.out.keep hk (fun _ _ _ h => h))
  have HX' : Hd (Sl (fun b => b < w.heap.size) W2 (.slice a x.d.length c) (u8s x.d)) := hid (HX.out.keep hk (fun _ _ _ h => h))
  have BX' : Hd (Blk W2 w.heap.size #[(.int .i64 x.f), (.int .i64 x.o), (.int .i64 x.t), (.int .u32 (x.s : Int)), (.slice a x.d.length c)] 44) := hid (blk_keep BX.out hk (fun h => h))
  clear HN HX BX
  have HN := HN'
  clear HN'
  have HX := HX'
  clear HX'
  have BX := BX'
  clear BX'
  have HK' : Hd (Keeps (fun _ => False) w W2) := hid (HK.out.trans hk)
  clear HK
  have HK := HK'
  clear HK'
  have z_W2 := hk.size
  clear hk
  have o_BX_0 : W2.cell? ⟨w.heap.size, 0, none⟩ = some ((.int .i64 x.f)) := blk_cell BX.out 0
  have o_BX_1 : W2.cell? ⟨w.heap.size, 1, none⟩ = some ((.int .i64 x.o)) := blk_cell BX.out 1
  have o_BX_2 : W2.cell? ⟨w.heap.size, 2, none⟩ = some ((.int .i64 x.t)) := blk_cell BX.out 2
  have o_BX_3 : W2.cell? ⟨w.heap.size, 3, none⟩ = some ((.int .u32 (x.s : Int))) := blk_cell BX.out 3
  go_wp2_with fail
  clear o_BX_0 o_BX_1 o_BX_2 o_BX_3
  generalize hW : World.alloc W2 _ = W3
  have S4 : Sl (fun k => k = W2.heap.size) W3 (.slice (some ⟨W2.heap.size, 0, none⟩) 4 4) (i64s [x.f, x.o, x.t, (x.s : Int)]) := by rw [← hW]; exact sl_four _ _ _ _ _
  have hk : Keeps (fun _ => False) W2 W3 := by rw [← hW]; exact keeps_alloc _ _ _
  have HB2 : Wi.Buf (fun k => W1.heap.size < k ∧ k < W2.heap.size) W3 W1.heap.size [] := Wi.Buf.keep HBF.out.tight hk (fun h => h) (fun _ _ _ h => h)
  clear hW HBF
  have HN' : Hd (NibF W3) := hid (HN.out.keep hk (fun _ _ _ h => h))
  have HX' : Hd (Sl (fun b => b < w.heap.size) W3 (.slice a x.d.length c) (u8s x.d)) := hid (HX.out.keep hk (fun _ _ _ h => h))
  have BX' : Hd (Blk W3 w.heap.size #[(.int .i64 x.f), (.int .i64 x.o), (.int .i64 x.t), (.int .u32 (x.s : Int)), (.slice a x.d.length c)] 44) := hid (blk_keep BX.out hk (fun h => h))
  clear HN HX BX
  have HN := HN'
  clear HN'
  have HX := HX'
  clear HX'
  have BX := BX'
  clear BX'
  have HK' : Hd (Keeps (fun _ => False) w W3) := hid (HK.out.trans hk)
  clear HK
  have HK := HK'
  clear HK'
  have z_W3 := hk.size
  clear hk
  refine (Wi.WInts_any _ (fun k => k = W2.heap.size) W1.heap.size [] _ [x.f, x.o, x.t, (x.s : Int)] _ HB2 S4 (fun k hk hK => by subst hK; exact ⟨by omega, by omega⟩) (by simp) HPO.out.r).mono ?_
  rintro e W4 ⟨rfl, hp⟩
  obtain ⟨hb3, hk⟩ := Wi.BufAt.post HB2 (fun b h => h.1) hp
  rw [List.nil_append] at hb3
  have HB3 := hid hb3
  clear hp hb3 HB2 S4
  have HN' : Hd (NibF W4) := hid (HN.out.keep hk (fun b h1 h2 h3 => by omega))
  have HX' : Hd (Sl (fun b => b < w.heap.size) W4 (.slice a x.d.length c) (u8s x.d)) := hid (HX.out.keep hk (fun b h1 h2 h3 => by omega))
  have BX' : Hd (Blk W4 w.heap.size #[(.int .i64 x.f), (.int .i64 x.o), (.int .i64 x.t), (.int .u32 (x.s : Int)), (.slice a x.d.length c)] 44) := hid (blk_keep BX.out hk (fun h => by omega))
  clear HN HX BX
  have HN := HN'
  clear HN'
  have HX := HX'
  clear HX'
  have BX := BX'
  clear BX'
  have HK' : Hd (Keeps (fun _ => False) w W4) := hid (HK.out.trans' hk (fun i hi h => by omega))
  clear HK
  have HK := HK'
  clear HK'
  have z_W4 := hk.size
  clear hk
  have o_BX_4 : W4.cell? ⟨w.heap.size, 4, none⟩ = some ((.slice a x.d.length c)) := blk_cell BX.out 4
  go_wp2_with fail
  have HB2 := HB3.out.tight
  have el : (Wi.encL [x.f, x.o, x.t, (x.s : Int)]).length ≤ 50 := by unfold Wi.encL; rw [List.length_append]; have h1 := Wi.enc_len10 (n := [x.f, x.o, x.t, (x.s : Int)].length) (by simp); have h2 := Wi.flatMap_len [x.f, x.o, x.t, (x.s : Int)] HPO.out.r; simp at h1 h2 ⊢; omega
  refine (Wi.WBytes_any _ (fun b => b < w.heap.size) W1.heap.size _ _ x.d _ HB2 HX.out (fun k hk hK => ⟨by omega, by omega⟩) (by have := HXL.out; omega)).mono ?_
  rintro e W5 ⟨rfl, hp⟩
  obtain ⟨hb3, hk⟩ := Wi.BufAt.post HB2 (fun b h => h.1) hp
  clear HB3
  have HB3 : Hd (Wi.BufAt W5 W1.heap.size (pk x)) := hid hb3
  clear hp hb3 HB2 el
  clear o_BX_4
  have HN' : Hd (NibF W5) := hid (HN.out.keep hk (fun b h1 h2 h3 => by omega))
  have HX' : Hd (Sl (fun b => b < w.heap.size) W5 (.slice a x.d.length c) (u8s x.d)) := hid (HX.out.keep hk (fun b h1 h2 h3 => by omega))
  have BX' : Hd (Blk W5 w.heap.size #[(.int .i64 x.f), (.int .i64 x.o), (.int .i64 x.t), (.int .u32 (x.s : Int)), (.slice a x.d.length c)] 44) := hid (blk_keep BX.out hk (fun h => by omega))
  clear HN HX BX
  have HN := HN'
  clear HN'
  have HX := HX'
  clear HX'
  have BX := BX'
  clear BX'
  have HK' : Hd (Keeps (fun _ => False) w W5) := hid (HK.out.trans' hk (fun i hi h => by omega))
  clear HK
  have HK := HK'
  clear HK'
  have z_W5 := hk.size
  clear hk
  have HPL := hid (pk_len HPO.out)
  have HPT := hid (pk_lt HPO.out)
  go_wp2_with fail
  refine (Wi.WDone_any _ W1.heap.size (pk x) _ HB3.out (by have := HPL.out; omega)).mono ?_
  rintro e W6 ⟨ad, nd, cd, rfl, hnd, hod, hk⟩
  have SD : Hd (Sl (fun _ => True) W6 (.slice ad nd cd) (u8s (pk x))) := hid ((row_sl hod.row hnd.symm).mono (fun _ _ _ => trivial))
  clear hod hnd HB3
  have HN' : Hd (NibF W6) := hid (HN.out.keep hk (fun _ _ _ h => h))
  have HX' : Hd (Sl (fun b => b < w.heap.size) W6 (.slice a x.d.length c) (u8s x.d)) := hid (HX.out.keep hk (fun _ _ _ h => h))
  have BX' : Hd (Blk W6 w.heap.size #[(.int .i64 x.f), (.int .i64 x.o), (.int .i64 x.t), (.int .u32 (x.s : Int)), (.slice a x.d.length c)] 44) := hid (blk_keep BX.out hk (fun h => h))
  clear HN HX BX
  have HN := HN'
  clear HN'
  have HX := HX'
  clear HX'
  have BX := BX'
  clear BX'
  have HK' : Hd (Keeps (fun _ => False) w W6) := hid (HK.out.trans hk)
  clear HK
  have HK := HK'
  clear HK'
  have z_W6 := hk.size
  clear hk
  go_wp2_with fail
  refine (Cr.Seal_any _ _ (pk x) _ HN.out SD.out HPT.out (by have := HPL.out; omega)).mono ?_
  rintro e W7 ⟨a4, n4, c4, rfl, hn4, ho4, hk⟩
  have HO4 := hid ho4; have HN4 := hid hn4; have HK9 := hid (HK.out.trans hk)
  have z9 := HK.out.size
  clear ho4 hk hn4
  go_wp2
  go_ret
  exact ⟨a4, n4, c4, rfl, HN4.out, HO4.out.mono (fun b _ h => by omega), HK9.out⟩
set_option maxRecDepth 100000 in set_option maxHeartbeats 1000000 in
theorem unpacked_bad (K : Nat → Prop) (v : Value) (y : List Nat) (w : World) (hN : Cr.Nib w) (hv : Sl K w v (u8s y)) (hvb : ∀ c ∈ y, c < 256) (hm : y.length ≤ 100000) (h0 : (Cr.opened y).2 = 8) :
    Calls Tryd.prog 38 #[v] w fun e w' => e = .returned (.tuple #[.agg #[.int .i64 0, .int .i64 0, .int .i64 0, .int .u32 0, .slice none 0 0], .bool false]) ∧ Keeps (fun _ => False) w w' := by
  have HN : Hd (NibF w) := hid hN
  have HV := hid hv; have HVB := hid hvb
  clear hN hv hvb
  have HOP := hid h0
  clear h0
  go_enter Tryd.func38, Tryd.ntmps38
  go_upto_region 1 with fail
  generalize hW : World.alloc w _ = W1
  have KS : Hd (Keeps (fun _ => False) w W1) := hid (by rw [← hW]; exact (Keeps.alloc (Keeps.refl (fun _ => False) w) _))
  have HN' : Hd (NibF W1) := hid (HN.out.keep KS.out (fun _ _ _ h => h))
  have HV' : Hd (Sl K W1 v (u8s y)) := hid (HV.out.keep KS.out (fun _ _ _ h => h))
  have BR : Hd (Blk W1 w.heap.size #[(.int .i64 0), (.int .i64 0), (.int .i64 0), (.int .u32 0), (.slice none 0 0)] 44) := hid (by rw [← hW]; exact (blk_new _ _ _))
  clear HN HV
  have HN := HN'
  clear HN'
  have HV := HV'
  clear HV'
  have HK : Hd (Keeps (fun _ => False) w W1) := hid KS.out
  have z_W1 : w.heap.size + 1 ≤ W1.heap.size := by rw [← hW]; simp
  clear hW KS
  go_wp2_with fail
  refine (Cr.Open_any _ _ y _ HN.out HV.out HVB.out (by omega)).mono ?_
  rw [show Cr.OpenRet y = fun w r w' => ∃ a n c, r = .returned (.tuple #[.slice a n c, .int .i64 8]) ∧ n = (Cr.opened y).1.length ∧ Own (fun k => w.heap.size ≤ k) w' 5 1 (.slice a n c) n (u8s (Cr.opened y).1) ∧ Keeps (fun _ => False) w w' by funext w r w'; unfold Cr.OpenRet; rw [HOP.out]]
  rintro e W2 ⟨ao, no, co, rfl, hno, hoo, hk⟩
  obtain ⟨c, hc⟩ : ∃ c, (Cr.opened y).1 = c := ⟨_, rfl⟩
  rw [hc] at hno hoo
  have HC := hid (show c.length ≤ y.length ∧ ∀ d ∈ c, d < 256 from by rw [← hc]; unfold Cr.opened; split; simp; split; exact ⟨by rw [List.length_take]; omega, fun d hd => HVB.out d (List.mem_of_mem_take hd)⟩; simp)
  have SO : Hd (Sl (fun _ => True) W2 (.slice ao no co) (u8s c)) := hid ((row_sl hoo.row (by rw [hno, u8s_length])).mono (fun _ _ _ => trivial))
  clear hoo hno hc
  have HN' : Hd (NibF W2) := hid (HN.out.keep hk (fun _ _ _ h => h))
  have HV' : Hd (Sl K W2 v (u8s y)) := hid (HV.out.keep hk (fun _ _ _ h => h))
  have BR' : Hd (Blk W2 w.heap.size #[(.int .i64 0), (.int .i64 0), (.int .i64 0), (.int .u32 0), (.slice none 0 0)] 44) := hid (blk_keep BR.out hk (fun h => h))
  clear HN HV BR
  have HN := HN'
  clear HN'
  have HV := HV'
  clear HV'
  have BR := BR'
  clear BR'
  have HK' : Hd (Keeps (fun _ => False) w W2) := hid (HK.out.trans hk)
  clear HK
  have HK := HK'
  clear HK'
  have z_W2 := hk.size
  clear hk
  go_wp2_with fail
  refine (Wi.NewReader_any _ _ c _ SO.out (by have := HC.out.1; omega) HC.out.2).mono ?_
  rintro e W3 ⟨px, rfl, -, -, hk⟩
  have HN' : Hd (NibF W3) := hid (HN.out.keep hk (fun _ _ _ h => h))
  have HV' : Hd (Sl K W3 v (u8s y)) := hid (HV.out.keep hk (fun _ _ _ h => h))
  have BR' : Hd (Blk W3 w.heap.size #[(.int .i64 0), (.int .i64 0), (.int .i64 0), (.int .u32 0), (.slice none 0 0)] 44) := hid (blk_keep BR.out hk (fun h => h))
  have SO' : Hd (Sl (fun _ => True) W3 (.slice ao no co) (u8s c)) := hid (SO.out.keep hk (fun _ _ _ h => h))
  clear HN HV BR SO
  have HN := HN'
  clear HN'
  have HV := HV'
  clear HV'
  have BR := BR'
  clear BR'
  have SO := SO'
  clear SO'
  have HK' : Hd (Keeps (fun _ => False) w W3) := hid (HK.out.trans hk)
  clear HK
  have HK := HK'
  clear HK'
  have z_W3 := hk.size
  clear hk
  have o_BR_0 : W3.cell? ⟨w.heap.size, 0, none⟩ = some ((.int .i64 0)) := blk_cell BR.out 0
  have o_BR_1 : W3.cell? ⟨w.heap.size, 1, none⟩ = some ((.int .i64 0)) := blk_cell BR.out 1
  have o_BR_2 : W3.cell? ⟨w.heap.size, 2, none⟩ = some ((.int .i64 0)) := blk_cell BR.out 2
  have o_BR_3 : W3.cell? ⟨w.heap.size, 3, none⟩ = some ((.int .u32 0)) := blk_cell BR.out 3
  have o_BR_4 : W3.cell? ⟨w.heap.size, 4, none⟩ = some ((.slice none 0 0)) := blk_cell BR.out 4
  have f_BR_0 : W3.frozen? ⟨w.heap.size, 0, none⟩ = false := blk_free BR.out 0
  have f_BR_1 : W3.frozen? ⟨w.heap.size, 1, none⟩ = false := blk_free BR.out 1
  have f_BR_2 : W3.frozen? ⟨w.heap.size, 2, none⟩ = false := blk_free BR.out 2
  have f_BR_3 : W3.frozen? ⟨w.heap.size, 3, none⟩ = false := blk_free BR.out 3
  have f_BR_4 : W3.frozen? ⟨w.heap.size, 4, none⟩ = false := blk_free BR.out 4
  go_wp2
  obtain ⟨HV2, B3⟩ := fin5 HK.out (show w.heap.size ≤ w.heap.size by omega) BR.out (.int .i64 0) (.int .i64 0) (.int .i64 0) (.int .u32 0) (.slice none 0 0)
  have r0 := blk_cell B3 0
  have r1 := blk_cell B3 1
  have r2 := blk_cell B3 2
  have r3 := blk_cell B3 3
  have r4 := blk_cell B3 4
  refine bodyPost_ret (v := .tuple #[.agg #[(.int .i64 0), (.int .i64 0), (.int .i64 0), (.int .u32 0), (.slice none 0 0)], .bool false]) (by simp [results, Tryd.results38, go_sem, r0, r1, r2, r3, r4]) rfl ?_
  exact ⟨rfl, HV2⟩
set_option maxRecDepth 100000 in set_option maxHeartbeats 1000000 in
theorem unpacked_ok (K : Nat → Prop) (v : Value) (x : Seg) (w : World) (hN : Cr.Nib w) (hv : Sl K w v (u8s (Cr.seal_ (pk x)))) (ho : PkOk x) :
    Calls Tryd.prog 38 #[v] w fun e w' => ∃ a c, e = .returned (.tuple #[.agg #[.int .i64 x.f, .int .i64 x.o, .int .i64 x.t, .int .u32 (x.s : Int), .slice a x.d.length c], .bool true]) ∧ Own (fun b => w.heap.size ≤ b) w' 5 1 (.slice a x.d.length c) x.d.length (u8s x.d) ∧ Keeps (fun _ => False) w w' := by
  have hvb : ∀ c ∈ Cr.seal_ (pk x), c < 256 := Cr.seal_lt (pk_lt ho)
  have hm : (Cr.seal_ (pk x)).length ≤ 100000 := by rw [Cr.seal_len]; have := pk_len ho; omega
  have HN : Hd (NibF w) := hid hN
  have HV := hid hv; have HVB := hid hvb
  clear hN hv hvb
  have HPO := hid ho
  have HPL := hid (pk_len ho); have HPT := hid (pk_lt ho); have HPI := hid (pk_ints ho); have HPB := hid (pk_bytes ho)
  have hs : IntKind.u32.wrap (x.s : Int) = (x.s : Int) := by have := ho.s; simp [IntKind.wrap, IntKind.bits, IntKind.signed]; omega
  have hs2 : (x.s : Int) % 4294967296 = (x.s : Int) := by have := ho.s; omega
  have HXL : Hd (x.d.length ≤ 256) := hid ho.n
  clear ho
  go_enter Tryd.func38, Tryd.ntmps38
  go_upto_region 1 with fail
  generalize hW : World.alloc w _ = W1
  have KS : Hd (Keeps (fun _ => False) w W1) := hid (by rw [← hW]; exact (Keeps.alloc (Keeps.refl (fun _ => False) w) _))
  have HN' : Hd (NibF W1) := hid (HN.out.keep KS.out (fun _ _ _ h => h))
  have HV' : Hd (Sl K W1 v (u8s (Cr.seal_ (pk x)))) := hid (HV.out.keep KS.out (fun _ _ _ h => h))
  have BR : Hd (Blk W1 w.heap.size #[(.int .i64 0), (.int .i64 0), (.int .i64 0), (.int .u32 0), (.slice none 0 0)] 44) := hid (by rw [← hW]; exact (blk_new _ _ _))
  clear HN HV
  have HN := HN'
  clear HN'
  have HV := HV'
  clear HV'
  have HK : Hd (Keeps (fun _ => False) w W1) := hid KS.out
  have z_W1 : w.heap.size + 1 ≤ W1.heap.size := by rw [← hW]; simp
  clear hW KS
  go_wp2_with fail
  refine (Cr.Open_any _ _ (Cr.seal_ (pk x)) _ HN.out HV.out HVB.out (by omega)).mono ?_
  rw [show Cr.OpenRet (Cr.seal_ (pk x)) = fun w r w' => ∃ a n c, r = .returned (.tuple #[.slice a n c, .int .i64 0]) ∧ n = (pk x).length ∧ Own (fun k => w.heap.size ≤ k) w' 5 1 (.slice a n c) n (u8s (pk x)) ∧ Keeps (fun _ => False) w w' by unfold Cr.OpenRet; rw [Cr.opened_seal]]
  rintro e W2 ⟨ao, no, co, rfl, hno, hoo, hk⟩
  have SO : Hd (Sl (fun _ => True) W2 (.slice ao no co) (u8s (pk x))) := hid ((row_sl hoo.row (by rw [hno, u8s_length])).mono (fun _ _ _ => trivial))
  clear hoo hno
  have HN' : Hd (NibF W2) := hid (HN.out.keep hk (fun _ _ _ h => h))
  have HV' : Hd (Sl K W2 v (u8s (Cr.seal_ (pk x)))) := hid (HV.out.keep hk (fun _ _ _ h => h))
  have BR' : Hd (Blk W2 w.heap.size #[(.int .i64 0), (.int .i64 0), (.int .i64 0), (.int .u32 0), (.slice none 0 0)] 44) := hid (blk_keep BR.out hk (fun h => h))
  clear HN HV BR
  have HN := HN'
  clear HN'
  have HV := HV'
  clear HV'
  have BR := BR'
  clear BR'
  have HK' : Hd (Keeps (fun _ => False) w W2) := hid (HK.out.trans hk)
  clear HK
  have HK := HK'
  clear HK'
  have z_W2 := hk.size
  clear hk
  go_wp2_with fail
  refine (Wi.NewReader_any _ _ (pk x) _ SO.out (by have := HPL.out; omega) HPT.out).mono ?_
  rintro e W3 ⟨px, rfl, hx1, hx2, hk⟩
  have X1 := hid hx1
  clear hx1 SO
  clear HV
  have HN' : Hd (NibF W3) := hid (HN.out.keep hk (fun _ _ _ h => h))
  have BR' : Hd (Blk W3 w.heap.size #[(.int .i64 0), (.int .i64 0), (.int .i64 0), (.int .u32 0), (.slice none 0 0)] 44) := hid (blk_keep BR.out hk (fun h => h))
  clear HN BR
  have HN := HN'
  clear HN'
  have BR := BR'
  clear BR'
  have HK' : Hd (Keeps (fun _ => False) w W3) := hid (HK.out.trans hk)
  clear HK
  have HK := HK'
  clear HK'
  have z_W3 := hk.size
  clear hk
  go_wp2_with fail
  refine (Wi.RInts_any _ px 4 (0, pk x) _ X1.out (by omega) (by have := HPL.out; simp only; omega)).mono ?_
  unfold Wi.RLPost
  rw [HPI.out]
  rintro e W4 ⟨al, nl, cl, rfl, hnl, hol, hrd, hk⟩
  obtain rfl : nl = 4 := by simpa using hnl
  have zl := hk.size
  have SLi : Hd (Row (fun b => W3.heap.size ≤ b ∧ b < W4.heap.size) W4 1 (.slice al 4 cl) 4 (i64s [x.f, x.o, x.t, (x.s : Int)])) := hid (hol.row.mono (fun b hb h => ⟨h, hb⟩))
  have X2 := hid hrd
  have lpx : px < W3.heap.size := by have := X1.out; obtain ⟨bv, bs, at_, h1, h2, h3, h4, h5, h6, h7, h8, h9⟩ := this; exact h8
  clear hnl hol hrd X1
  have HN' : Hd (NibF W4) := hid (HN.out.keep hk (fun b h1 h2 h3 => by omega))
  have BR' : Hd (Blk W4 w.heap.size #[(.int .i64 0), (.int .i64 0), (.int .i64 0), (.int .u32 0), (.slice none 0 0)] 44) := hid (blk_keep BR.out hk (fun h => by omega))
  clear HN BR
  have HN := HN'
  clear HN'
  have BR := BR'
  clear BR'
  have HK' : Hd (Keeps (fun _ => False) w W4) := hid (HK.out.trans' hk (fun i hi h => by omega))
  clear HK
  have HK := HK'
  clear HK'
  have z_W4 := hk.size
  clear hk
  go_wp2_with fail
  refine (Wi.RBytes_any _ px 256 (0, Wi.encB x.d) _ X2.out (by omega)).mono ?_
  unfold Wi.RBPost
  rw [HPB.out]
  rintro e W5 ⟨ab, nb, cb, rfl, rfl, hob, hrd, hk⟩
  have SB : Hd (Own (fun b => W4.heap.size ≤ b ∧ b < W5.heap.size) W5 5 1 (.slice ab x.d.length cb) x.d.length (u8s x.d)) := hid (hob.mono (fun b hb h => ⟨h, hb⟩))
  have X3 := hid hrd
  clear hob hrd X2
  have HN' : Hd (NibF W5) := hid (HN.out.keep hk (fun b h1 h2 h3 => by omega))
  have BR' : Hd (Blk W5 w.heap.size #[(.int .i64 0), (.int .i64 0), (.int .i64 0), (.int .u32 0), (.slice none 0 0)] 44) := hid (blk_keep BR.out hk (fun h => by omega))
  have SLi' : Hd (Row (fun b => W3.heap.size ≤ b ∧ b < W4.heap.size) W5 1 (.slice al 4 cl) 4 (i64s [x.f, x.o, x.t, (x.s : Int)])) := hid (SLi.out.keep hk (fun b h1 h2 h3 => by omega))
  clear HN BR SLi
  have HN := HN'
  clear HN'
  have BR := BR'
  clear BR'
  have SLi := SLi'
  clear SLi'
  have HK' : Hd (Keeps (fun _ => False) w W5) := hid (HK.out.trans' hk (fun i hi h => by omega))
  clear HK
  have HK := HK'
  clear HK'
  have z_W5 := hk.size
  clear hk
  go_upto_region 7 with fail
  have X3k : Hd (∀ V, Keeps (fun _ => False) W5 V → Wi.Rd (fun k => W2.heap.size ≤ k ∧ k < px) V px (0, [])) := hid (fun V hk => X3.out.keep hk (fun h => h) (fun _ _ _ h => h))
  clear X3
  generalize hW : World.alloc W5 _ = W6
  have KS : Hd (Keeps (fun _ => False) W5 W6) := hid (by rw [← hW]; exact (Keeps.alloc (Keeps.refl (fun _ => False) W5) _))
  have HN' : Hd (NibF W6) := hid (HN.out.keep KS.out (fun _ _ _ h => h))
  have BR' : Hd (Blk W6 w.heap.size #[(.int .i64 0), (.int .i64 0), (.int .i64 0), (.int .u32 0), (.slice none 0 0)] 44) := hid (by rw [← hW]; exact (blk_alloc BR.out _))
  have SLi' : Hd (Row (fun b => W3.heap.size ≤ b ∧ b < W4.heap.size) W6 1 (.slice al 4 cl) 4 (i64s [x.f, x.o, x.t, (x.s : Int)])) := hid (SLi.out.keep KS.out (fun _ _ _ h => h))
  have SB' : Hd (Own (fun b => W4.heap.size ≤ b ∧ b < W5.heap.size) W6 5 1 (.slice ab x.d.length cb) x.d.length (u8s x.d)) := hid (SB.out.keep KS.out (fun _ _ _ h => h))
  have XKB : Hd (Keeps (fun _ => False) W5 W6) := hid KS.out
  have BS : Hd (Blk W6 W5.heap.size #[(.int .i64 0), (.int .i64 0), (.int .i64 0), (.int .u32 0), (.slice ab x.d.length cb)] 44) := hid (by rw [← hW]; exact (blk_new _ _ _))
  clear HN BR SLi SB
  have HN := HN'
  clear HN'
  have BR := BR'
  clear BR'
  have SLi := SLi'
  clear SLi'
  have SB := SB'
  clear SB'
  have HK' : Hd (Keeps (fun _ => False) w W6) := hid (HK.out.trans KS.out)
  clear HK
  have HK := HK'
  clear HK'
  have z_W6 : W5.heap.size + 1 ≤ W6.heap.size := by rw [← hW]; simp
  clear hW KS
  go_wp2_with fail
  refine (Wi.REnd_any _ px (0, []) _ (X3k.out _ XKB.out)).mono ?_
  rw [sEnd_nil]
  rintro e W7 ⟨rfl, hd⟩
  have hk := drawn_keeps (fun _ => False) hd
  clear hd X3k XKB
  have HN' : Hd (NibF W7) := hid (HN.out.keep hk (fun _ _ _ h => h))
  have BR' : Hd (Blk W7 w.heap.size #[(.int .i64 0), (.int .i64 0), (.int .i64 0), (.int .u32 0), (.slice none 0 0)] 44) := hid (blk_keep BR.out hk (fun h => h))
  have SLi' : Hd (Row (fun b => W3.heap.size ≤ b ∧ b < W4.heap.size) W7 1 (.slice al 4 cl) 4 (i64s [x.f, x.o, x.t, (x.s : Int)])) := hid (SLi.out.keep hk (fun _ _ _ h => h))
  have SB' : Hd (Own (fun b => W4.heap.size ≤ b ∧ b < W5.heap.size) W7 5 1 (.slice ab x.d.length cb) x.d.length (u8s x.d)) := hid (SB.out.keep hk (fun _ _ _ h => h))
  have BS' : Hd (Blk W7 W5.heap.size #[(.int .i64 0), (.int .i64 0), (.int .i64 0), (.int .u32 0), (.slice ab x.d.length cb)] 44) := hid (blk_keep BS.out hk (fun h => h))
  clear HN BR SLi SB BS
  have HN := HN'
  clear HN'
  have BR := BR'
  clear BR'
  have SLi := SLi'
  clear SLi'
  have SB := SB'
  clear SB'
  have BS := BS'
  clear BS'
  have HK' : Hd (Keeps (fun _ => False) w W7) := hid (HK.out.trans hk)
  clear HK
  have HK := HK'
  clear HK'
  have z_W7 := hk.size
  clear hk
  go_upto_region 9 with fail
  obtain ⟨bl, ol, rfl⟩ := row_some SLi.out (by omega)
  obtain ⟨hbl, hbl2, lc⟩ := rowc1 SLi.out (by omega)
  have lcj : W7.cell? ⟨bl, ol, none⟩ = some (.int .i64 x.f) := by have h := lc 0 (by omega); simpa [i64s] using h
  clear lc
  have f_BS_0 : W7.frozen? ⟨W5.heap.size, 0, none⟩ = false := blk_free BS.out 0
  have o_BS_0 : W7.cell? ⟨W5.heap.size, 0, none⟩ = some ((.int .i64 0)) := blk_cell BS.out 0
  go_upto_region 10 with fail
  clear lcj hbl2
  clear f_BS_0 o_BS_0
  generalize hW : World.setCell W7 _ _ = W8
  have KS : Hd (Keeps (fun b => b = W5.heap.size) W7 W8) := hid (by rw [← hW]; exact (Keeps.setCell (S := fun b => b = W5.heap.size) (Keeps.refl (fun b => b = W5.heap.size) W7) (.inl rfl) _))
  have HN' : Hd (NibF W8) := hid (HN.out.keep KS.out (fun b _ h1 h2 => by omega))
  have BR' : Hd (Blk W8 w.heap.size #[(.int .i64 0), (.int .i64 0), (.int .i64 0), (.int .u32 0), (.slice none 0 0)] 44) := hid (by rw [← hW]; exact (blk_other BR.out (by omega) _ _))
  have SLi' : Hd (Row (fun b => W3.heap.size ≤ b ∧ b < W4.heap.size) W8 1 (.slice (some ⟨bl, ol, none⟩) 4 cl) 4 (i64s [x.f, x.o, x.t, (x.s : Int)])) := hid (SLi.out.keep KS.out (fun b _ h1 h2 => by omega))
  have SB' : Hd (Own (fun b => W4.heap.size ≤ b ∧ b < W5.heap.size) W8 5 1 (.slice ab x.d.length cb) x.d.length (u8s x.d)) := hid (SB.out.keep KS.out (fun b _ h1 h2 => by omega))
  have BS' : Hd (Blk W8 W5.heap.size #[(.int .i64 x.f), (.int .i64 0), (.int .i64 0), (.int .u32 0), (.slice ab x.d.length cb)] 44) := hid (by rw [← hW]; exact (blk_set BS.out 0 _))
  clear HN BR SLi SB BS
  have HN := HN'
  clear HN'
  have BR := BR'
  clear BR'
  have SLi := SLi'
  clear SLi'
  have SB := SB'
  clear SB'
  have BS := BS'
  clear BS'
  have HK' : Hd (Keeps (fun _ => False) w W8) := hid (HK.out.trans' KS.out (fun i hi h => by omega))
  clear HK
  have HK := HK'
  clear HK'
  have z_W8 : W7.heap.size + 0 ≤ W8.heap.size := by rw [← hW]; simp
  clear hW KS
  obtain ⟨hbl, hbl2, lc⟩ := rowc1 SLi.out (by omega)
  have lcj : W8.cell? ⟨bl, ol + 1, none⟩ = some (.int .i64 x.o) := by have h := lc 1 (by omega); simpa [i64s] using h
  clear lc
  have f_BS_1 : W8.frozen? ⟨W5.heap.size, 1, none⟩ = false := blk_free BS.out 1
  have o_BS_1 : W8.cell? ⟨W5.heap.size, 1, none⟩ = some ((.int .i64 0)) := blk_cell BS.out 1
  go_upto_region 11 with fail
  clear lcj hbl2
  clear f_BS_1 o_BS_1
  generalize hW : World.setCell W8 _ _ = W9
  have KS : Hd (Keeps (fun b => b = W5.heap.size) W8 W9) := hid (by rw [← hW]; exact (Keeps.setCell (S := fun b => b = W5.heap.size) (Keeps.refl (fun b => b = W5.heap.size) W8) (.inl rfl) _))
  have HN' : Hd (NibF W9) := hid (HN.out.keep KS.out (fun b _ h1 h2 => by omega))
  have BR' : Hd (Blk W9 w.heap.size #[(.int .i64 0), (.int .i64 0), (.int .i64 0), (.int .u32 0), (.slice none 0 0)] 44) := hid (by rw [← hW]; exact (blk_other BR.out (by omega) _ _))
  have SLi' : Hd (Row (fun b => W3.heap.size ≤ b ∧ b < W4.heap.size) W9 1 (.slice (some ⟨bl, ol, none⟩) 4 cl) 4 (i64s [x.f, x.o, x.t, (x.s : Int)])) := hid (SLi.out.keep KS.out (fun b _ h1 h2 => by omega))
  have SB' : Hd (Own (fun b => W4.heap.size ≤ b ∧ b < W5.heap.size) W9 5 1 (.slice ab x.d.length cb) x.d.length (u8s x.d)) := hid (SB.out.keep KS.out (fun b _ h1 h2 => by omega))
  have BS' : Hd (Blk W9 W5.heap.size #[(.int .i64 x.f), (.int .i64 x.o), (.int .i64 0), (.int .u32 0), (.slice ab x.d.length cb)] 44) := hid (by rw [← hW]; exact (blk_set BS.out 1 _))
  clear HN BR SLi SB BS
  have HN := HN'
  clear HN'
  have BR := BR'
  clear BR'
  have SLi := SLi'
  clear SLi'
  have SB := SB'
  clear SB'
  have BS := BS'
  clear BS'
  have HK' : Hd (Keeps (fun _ => False) w W9) := hid (HK.out.trans' KS.out (fun i hi h => by omega))
  clear HK
  have HK := HK'
  clear HK'
  have z_W9 : W8.heap.size + 0 ≤ W9.heap.size := by rw [← hW]; simp
  clear hW KS
  obtain ⟨hbl, hbl2, lc⟩ := rowc1 SLi.out (by omega)
  have lcj : W9.cell? ⟨bl, ol + 2, none⟩ = some (.int .i64 x.t) := by have h := lc 2 (by omega); simpa [i64s] using h
  clear lc
  have f_BS_2 : W9.frozen? ⟨W5.heap.size, 2, none⟩ = false := blk_free BS.out 2
  have o_BS_2 : W9.cell? ⟨W5.heap.size, 2, none⟩ = some ((.int .i64 0)) := blk_cell BS.out 2
  go_upto_region 12 with fail
  clear lcj hbl2
  clear f_BS_2 o_BS_2
  generalize hW : World.setCell W9 _ _ = W10
  have KS : Hd (Keeps (fun b => b = W5.heap.size) W9 W10) := hid (by rw [← hW]; exact (Keeps.setCell (S := fun b => b = W5.heap.size) (Keeps.refl (fun b => b = W5.heap.size) W9) (.inl rfl) _))
  have HN' : Hd (NibF W10) := hid (HN.out.keep KS.out (fun b _ h1 h2 => by omega))
  have BR' : Hd (Blk W10 w.heap.size #[(.int .i64 0), (.int .i64 0), (.int .i64 0), (.int .u32 0), (.slice none 0 0)] 44) := hid (by rw [← hW]; exact (blk_other BR.out (by omega) _ _))
  have SLi' : Hd (Row (fun b => W3.heap.size ≤ b ∧ b < W4.heap.size) W10 1 (.slice (some ⟨bl, ol, none⟩) 4 cl) 4 (i64s [x.f, x.o, x.t, (x.s : Int)])) := hid (SLi.out.keep KS.out (fun b _ h1 h2 => by omega))
  have SB' : Hd (Own (fun b => W4.heap.size ≤ b ∧ b < W5.heap.size) W10 5 1 (.slice ab x.d.length cb) x.d.length (u8s x.d)) := hid (SB.out.keep KS.out (fun b _ h1 h2 => by omega))
  have BS' : Hd (Blk W10 W5.heap.size #[(.int .i64 x.f), (.int .i64 x.o), (.int .i64 x.t), (.int .u32 0), (.slice ab x.d.length cb)] 44) := hid (by rw [← hW]; exact (blk_set BS.out 2 _))
  clear HN BR SLi SB BS
  have HN := HN'
  clear HN'
  have BR := BR'
  clear BR'
  have SLi := SLi'
  clear SLi'
  have SB := SB'
  clear SB'
  have BS := BS'
  clear BS'
  have HK' : Hd (Keeps (fun _ => False) w W10) := hid (HK.out.trans' KS.out (fun i hi h => by omega))
  clear HK
  have HK := HK'
  clear HK'
  have z_W10 : W9.heap.size + 0 ≤ W10.heap.size := by rw [← hW]; simp
  clear hW KS
  obtain ⟨hbl, hbl2, lc⟩ := rowc1 SLi.out (by omega)
  have lcj : W10.cell? ⟨bl, ol + 3, none⟩ = some (.int .i64 (x.s : Int)) := by have h := lc 3 (by omega); simpa [i64s] using h
  clear lc
  have f_BS_3 : W10.frozen? ⟨W5.heap.size, 3, none⟩ = false := blk_free BS.out 3
  have o_BS_3 : W10.cell? ⟨W5.heap.size, 3, none⟩ = some ((.int .u32 0)) := blk_cell BS.out 3
  go_upto_region 13 with fail
  clear lcj hbl2
  clear f_BS_3 o_BS_3
  generalize hW : World.setCell W10 _ _ = W11
  have KS : Hd (Keeps (fun b => b = W5.heap.size) W10 W11) := hid (by rw [← hW]; exact (Keeps.setCell (S := fun b => b = W5.heap.size) (Keeps.refl (fun b => b = W5.heap.size) W10) (.inl rfl) _))
  have HN' : Hd (NibF W11) := hid (HN.out.keep KS.out (fun b _ h1 h2 => by omega))
  have BR' : Hd (Blk W11 w.heap.size #[(.int .i64 0), (.int .i64 0), (.int .i64 0), (.int .u32 0), (.slice none 0 0)] 44) := hid (by rw [← hW]; exact (blk_other BR.out (by omega) _ _))
  have SLi' : Hd (Row (fun b => W3.heap.size ≤ b ∧ b < W4.heap.size) W11 1 (.slice (some ⟨bl, ol, none⟩) 4 cl) 4 (i64s [x.f, x.o, x.t, (x.s : Int)])) := hid (SLi.out.keep KS.out (fun b _ h1 h2 => by omega))
  have SB' : Hd (Own (fun b => W4.heap.size ≤ b ∧ b < W5.heap.size) W11 5 1 (.slice ab x.d.length cb) x.d.length (u8s x.d)) := hid (SB.out.keep KS.out (fun b _ h1 h2 => by omega))
  have BS' : Hd (Blk W11 W5.heap.size #[(.int .i64 x.f), (.int .i64 x.o), (.int .i64 x.t), (.int .u32 (x.s : Int)), (.slice ab x.d.length cb)] 44) := hid (by rw [← hW]; exact (blk_set BS.out 3 _))
  clear HN BR SLi SB BS
  have HN := HN'
  clear HN'
  have BR := BR'
  clear BR'
  have SLi := SLi'
  clear SLi'
  have SB := SB'
  clear SB'
  have BS := BS'
  clear BS'
  have HK' : Hd (Keeps (fun _ => False) w W11) := hid (HK.out.trans' KS.out (fun i hi h => by omega))
  clear HK
  have HK := HK'
  clear HK'
  have z_W11 : W10.heap.size + 0 ≤ W11.heap.size := by rw [← hW]; simp
  clear hW KS
  have o_BS_0 : W11.cell? ⟨W5.heap.size, 0, none⟩ = some ((.int .i64 x.f)) := blk_cell BS.out 0
  have o_BS_1 : W11.cell? ⟨W5.heap.size, 1, none⟩ = some ((.int .i64 x.o)) := blk_cell BS.out 1
  have o_BS_2 : W11.cell? ⟨W5.heap.size, 2, none⟩ = some ((.int .i64 x.t)) := blk_cell BS.out 2
  have o_BS_3 : W11.cell? ⟨W5.heap.size, 3, none⟩ = some ((.int .u32 (x.s : Int))) := blk_cell BS.out 3
  have o_BS_4 : W11.cell? ⟨W5.heap.size, 4, none⟩ = some ((.slice ab x.d.length cb)) := blk_cell BS.out 4
  have o_BR_0 : W11.cell? ⟨w.heap.size, 0, none⟩ = some ((.int .i64 0)) := blk_cell BR.out 0
  have o_BR_1 : W11.cell? ⟨w.heap.size, 1, none⟩ = some ((.int .i64 0)) := blk_cell BR.out 1
  have o_BR_2 : W11.cell? ⟨w.heap.size, 2, none⟩ = some ((.int .i64 0)) := blk_cell BR.out 2
  have o_BR_3 : W11.cell? ⟨w.heap.size, 3, none⟩ = some ((.int .u32 0)) := blk_cell BR.out 3
  have o_BR_4 : W11.cell? ⟨w.heap.size, 4, none⟩ = some ((.slice none 0 0)) := blk_cell BR.out 4
  have f_BR_0 : W11.frozen? ⟨w.heap.size, 0, none⟩ = false := blk_free BR.out 0
  have f_BR_1 : W11.frozen? ⟨w.heap.size, 1, none⟩ = false := blk_free BR.out 1
  have f_BR_2 : W11.frozen? ⟨w.heap.size, 2, none⟩ = false := blk_free BR.out 2
  have f_BR_3 : W11.frozen? ⟨w.heap.size, 3, none⟩ = false := blk_free BR.out 3
  have f_BR_4 : W11.frozen? ⟨w.heap.size, 4, none⟩ = false := blk_free BR.out 4
  go_wp2
  clear o_BS_0 o_BS_1 o_BS_2 o_BS_3 o_BS_4 o_BR_0 o_BR_1 o_BR_2 o_BR_3 o_BR_4 f_BR_0 f_BR_1 f_BR_2 f_BR_3 f_BR_4
  obtain ⟨HV2, B3⟩ := fin5 HK.out (show w.heap.size ≤ w.heap.size by omega) BR.out (.int .i64 x.f) (.int .i64 x.o) (.int .i64 x.t) (.int .u32 (x.s : Int)) (.slice ab x.d.length cb)
  have r0 := blk_cell B3 0
  have r1 := blk_cell B3 1
  have r2 := blk_cell B3 2
  have r3 := blk_cell B3 3
  have r4 := blk_cell B3 4
  refine bodyPost_ret (v := .tuple #[.agg #[(.int .i64 x.f), (.int .i64 x.o), (.int .i64 x.t), (.int .u32 (x.s : Int)), (.slice ab x.d.length cb)], .bool true]) (by simp [results, Tryd.results38, go_sem, r0, r1, r2, r3, r4]) rfl ?_
  exact ⟨ab, cb, rfl, (SB.out.keep (keep5 W11 (w.heap.size) (.int .i64 x.f) (.int .i64 x.o) (.int .i64 x.t) (.int .u32 (x.s : Int)) (.slice ab x.d.length cb)) (fun b h1 h2 h3 => by omega)).mono (fun b _ h => by omega), HV2⟩
end Go.Proofs.YtgeicbjlichdgaaDoor
