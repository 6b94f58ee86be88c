/- Custody: TopL, TopM: walks and plain facts. -/
import Derived.Test.YtgfekgceeigdiaaDoorTopFind
import Derived.Test.YtgfekgceeigdiaaDoorWireAll
import Derived.Test.YtgfekgceeigdiaaDoorCrcAll
import Derived.Test.YtgfekgceeigdiaaDoorTopWait
import Derived.Test.YtgfekgceeigdiaaDoorTwoAll
import Derived.Test.YtgfekgceeigdiaaDoorFileTwo
import Derived.Test.YtgfekgceeigdiaaDoorLinkTwo
namespace Go.Proofs.YtgfekgceeigdiaaDoor
open Go.RowKit
attribute [local go_sem ↓] Go.wp_at_zero Go.wp_at_succ
def conL (i : Int) : List Nat := Wi.encI 1 ++ Wi.encI i
def offL (x : Bu) : List Nat := Wi.encI 0 ++ (Wi.encI x.i ++ (Wi.encI x.g ++ (Wi.encI x.o ++ (Wi.encI x.a ++ (Wi.enc x.s ++ Wi.encB x.d)))))
structure Bu.ok (x : Bu) : Prop where
  i : -9223372036854775808 ≤ x.i ∧ x.i ≤ 9223372036854775807
  g : -9223372036854775808 ≤ x.g ∧ x.g ≤ 9223372036854775807
  o : -9223372036854775808 ≤ x.o ∧ x.o ≤ 9223372036854775807
  a : -9223372036854775808 ≤ x.a ∧ x.a ≤ 9223372036854775807
  s : x.s < 4294967296
  d : ∀ c ∈ x.d, c < 256
  n : x.d.length ≤ 256
theorem encI_len {n : Int} (h : -9223372036854775808 ≤ n ∧ n ≤ 9223372036854775807) : (Wi.encI n).length ≤ 10 := Wi.enc_len10 (Wi.zig_le h.1 h.2)
theorem encI_lt (n : Int) : ∀ c ∈ Wi.encI n, c < 256 := Wi.enc_lt _
theorem conL_len {i : Int} (h : -9223372036854775808 ≤ i ∧ i ≤ 9223372036854775807) : (conL i).length ≤ 20 := by
  unfold conL; rw [List.length_append]
  have h1 := encI_len (n := 1) (by omega); have h2 := encI_len h; omega
theorem conL_lt (i : Int) : ∀ c ∈ conL i, c < 256 := by
  intro c hc
  rcases List.mem_append.1 hc with h | h
  · exact encI_lt _ c h
  · exact encI_lt _ c h
theorem offL_len {x : Bu} (h : x.ok) : (offL x).length ≤ 400 := by
  unfold offL Wi.encB
  simp only [List.length_append]
  have h0 := encI_len (n := 0) (by omega); have h1 := encI_len h.i; have h2 := encI_len h.g; have h3 := encI_len h.o; have h4 := encI_len h.a
  have h5 := Wi.enc_len10 (n := x.s) (by have := h.s; omega); have h6 := Wi.enc_len10 (n := x.d.length) (by have := h.n; omega); have h7 := h.n
  omega
theorem offL_lt {x : Bu} (h : x.ok) : ∀ c ∈ offL x, c < 256 := by
  intro c hc
  unfold offL Wi.encB at hc
  simp only [List.mem_append] at hc
  rcases hc with hc | hc | hc | hc | hc | hc | hc | hc
  · exact encI_lt _ c hc
  · exact encI_lt _ c hc
  · exact encI_lt _ c hc
  · exact encI_lt _ c hc
  · exact encI_lt _ c hc
  · exact Wi.enc_lt _ c hc
  · exact Wi.enc_lt _ c hc
  · exact h.d c hc
def node (i : Int) : Int := if i = 2 then 12 else i
set_option maxRecDepth 100000 in set_option maxHeartbeats 1000000 in
theorem nodeOf_any (i : Int) (w : World) : Calls Tryd.prog 30 #[.int .i64 i] w fun e w' => e = .returned (.int .i64 (node i)) ∧ w = w' := by
  by_cases h : i = 2
  · subst h
    have HE : Hd (node 2 = 12) := hid rfl
    go_enter Tryd.func30, Tryd.ntmps30
    go_wp2
    all_goals
      go_ret
      exact ⟨by rw [HE.out]; rfl, rfl⟩
  · have h2 : (i == 2) = false := by simp; exact h
    have HE : Hd (node i = i) := hid (if_neg h)
    clear h
    go_enter Tryd.func30, Tryd.ntmps30
    go_wp2
    all_goals
      go_ret
      exact ⟨by rw [HE.out]; rfl, rfl⟩
set_option maxRecDepth 100000 in set_option maxHeartbeats 1000000 in
theorem confirmation_any (i : Int) (w : World) (hi : -9223372036854775808 ≤ i ∧ i ≤ 9223372036854775807) :
    Calls Tryd.prog 53 #[.int .i64 i] w fun e w' => Wi.NewRet w 5 (u8s (conL i)) e w' := by
  have HI := hid hi
  have HCL : Hd ((Wi.encI 1).length ≤ 10 ∧ (Wi.encI i).length ≤ 10) := hid ⟨encI_len (by omega), encI_len hi⟩
  clear hi
  go_enter Tryd.func53, Tryd.ntmps53
  go_upto_region 2 with fail
  have HK : Hd (Keeps (fun _ => False) w w) := hid (Keeps.refl _ _)
  generalize hW : World.alloc w _ = W1
  have HBF : Hd (Wi.BufAt W1 w.heap.size []) := hid (by rw [← hW]; exact Wi.BufAt.new _ _)
  have hk : Keeps (fun _ => False) w W1 := by rw [← hW]; exact keeps_alloc _ _ _
  have zb := HBF.out.lt
  clear hW
  have HK' : Hd (Keeps (fun _ => False) w W1) := hid (HK.out.trans hk)
  clear HK
  have HK := HK'
  clear HK'
  have z_W1 := hk.size
  clear hk
  go_wp2_with fail
  refine (Wi.WInt_any _ w.heap.size [] 1 _ HBF.out (by omega) (by omega) (by simp)).mono ?_
  rintro e W2 ⟨rfl, hp⟩
  obtain ⟨hb3, hk⟩ := Wi.BufAt.post HBF.out (fun b h => h) hp
  clear HBF
  have HBF : Hd (Wi.BufAt W2 w.heap.size ([] ++ Wi.encI 1)) := hid hb3
  clear hp hb3
  have HK' : Hd (Keeps (fun _ => False) w W2) := hid (HK.out.trans' hk (fun i hi h => by omega))
  clear HK
  have HK := HK'
  clear HK'
  have z_W2 := hk.size
  clear hk
  go_wp2_with fail
  refine (Wi.WInt_any _ w.heap.size ([] ++ Wi.encI 1) i _ HBF.out HI.out.1 HI.out.2 (by have := HCL.out; simp only [List.length_append, List.length_nil] at *; omega)).mono ?_
  rintro e W3 ⟨rfl, hp⟩
  obtain ⟨hb3, hk⟩ := Wi.BufAt.post HBF.out (fun b h => h) hp
  clear HBF
  have HBF : Hd (Wi.BufAt W3 w.heap.size (([] ++ Wi.encI 1) ++ Wi.encI i)) := hid hb3
  clear hp hb3
  have HK' : Hd (Keeps (fun _ => False) w W3) := hid (HK.out.trans' hk (fun i hi h => by omega))
  clear HK
  have HK := HK'
  clear HK'
  have z_W3 := hk.size
  clear hk
  go_wp2_with fail
  refine (Wi.WDone_any _ w.heap.size (([] ++ Wi.encI 1) ++ Wi.encI i) _ HBF.out (by have := HCL.out; simp only [List.length_append, List.length_nil]; omega)).mono ?_
  rintro e W4 ⟨ad, nd, cd, rfl, hnd, hod, hk⟩
  have HOD := hid hod; have HND := hid hnd; have HK9 := hid (HK.out.trans hk)
  have z9 := HK.out.size
  clear hod hnd HBF hk
  go_wp2
  go_ret
  exact ⟨ad, nd, cd, rfl, HND.out.trans (by rw [show [] ++ Wi.encI 1 ++ Wi.encI i = conL i from rfl]), by have h := HOD.out.mono (K' := fun b => w.heap.size ≤ b) (fun b _ h => by omega); rw [show [] ++ Wi.encI 1 ++ Wi.encI i = conL i from rfl] at h; exact h, HK9.out⟩
set_option maxRecDepth 100000 in set_option maxHeartbeats 1000000 in
theorem offering_any (x : Bu) (K : Nat → Prop) (ad : Option Addr) (cd : Nat) (w : World) (hx : Sl K w (.slice ad x.d.length cd) (u8s x.d)) (ho : x.ok) :
    Calls Tryd.prog 36 #[.agg #[.int .i64 x.i, .int .i64 x.f, .int .i64 x.t, .int .i64 x.g, .int .i64 x.o, .int .i64 x.a, .int .u32 (x.s : Int), .slice ad x.d.length cd]] w fun e w' => Wi.NewRet w 5 (u8s (offL x)) e w' := by
  have HX := hid (hx.mono (K' := fun b => b < w.heap.size) (fun b h _ => h)); have HO := hid ho
  have HCL : Hd ((Wi.encI 0).length ≤ 10 ∧ (Wi.encI x.i).length ≤ 10 ∧ (Wi.encI x.g).length ≤ 10 ∧ (Wi.encI x.o).length ≤ 10 ∧ (Wi.encI x.a).length ≤ 10 ∧ (Wi.enc x.s).length ≤ 10 ∧ (Wi.encB x.d).length ≤ 266) := hid ⟨encI_len (by omega), encI_len ho.i, encI_len ho.g, encI_len ho.o, encI_len ho.a, Wi.enc_len10 (by have := ho.s; omega), by unfold Wi.encB; rw [List.length_append]; have h6 := Wi.enc_len10 (n := x.d.length) (by have := ho.n; omega); have h7 := ho.n; omega⟩
  have hs : IntKind.u64.wrap (x.s : Int) = (x.s : Int) := by have := ho.s; rw [Wi.wrap_u64]; omega
  have hs2 : (x.s : Int) % 18446744073709551616 = (x.s : Int) := by have := ho.s; omega
  have hdl := ho.n
  clear hx ho
  go_enter Tryd.func36, Tryd.ntmps36
  go_upto_region 1 with fail
  generalize hW : World.alloc w _ = W1
  have KS : Hd (Keeps (fun _ => False) w W1) := hid (by rw [← hW]; exact (Keeps.alloc (Keeps.refl (fun _ => False) w) _))
  have HX' : Hd (Sl (fun b => b < w.heap.size) W1 (.slice ad x.d.length cd) (u8s x.d)) := hid (HX.out.keep KS.out (fun _ _ _ h => h))
  have BX : Hd (Blk W1 w.heap.size #[(.int .i64 x.i), (.int .i64 x.f), (.int .i64 x.t), (.int .i64 x.g), (.int .i64 x.o), (.int .i64 x.a), (.int .u32 (x.s : Int)), (.slice ad x.d.length cd)] 59) := hid (by rw [← hW]; exact (blk_new _ _ _))
  clear HX
  have HX := HX'
  clear HX'
  have HK : Hd (Keeps (fun _ => False) w W1) := hid KS.out
  have z_W1 : w.heap.size + 1 ≤ W1.heap.size := by rw [← hW]; simp
  clear hW KS
  go_upto_region 2 with fail
  generalize hW : World.alloc W1 _ = W2
  have HBF : Hd (Wi.BufAt W2 W1.heap.size []) := hid (by rw [← hW]; exact Wi.BufAt.new _ _)
  have hk : Keeps (fun _ => False) W1 W2 := by rw [← hW]; exact keeps_alloc _ _ _
  have zb := HBF.out.lt
  clear hW
  have HX' : Hd (Sl (fun b => b < w.heap.size) W2 (.slice ad x.d.length cd) (u8s x.d)) := hid (HX.out.keep hk (fun _ _ _ h => h))
  have BX' : Hd (Blk W2 w.heap.size #[(.int .i64 x.i), (.int .i64 x.f), (.int .i64 x.t), (.int .i64 x.g), (.int .i64 x.o), (.int .i64 x.a), (.int .u32 (x.s : Int)), (.slice ad x.d.length cd)] 59) := hid (blk_keep BX.out hk (fun h => h))
  clear HX BX
  have HX := HX'
  clear HX'
  have BX := BX'
  clear BX'
  have HK' : Hd (Keeps (fun _ => False) w W2) := hid (HK.out.trans hk)
  clear HK
  have HK := HK'
  clear HK'
  have z_W2 := hk.size
  clear hk
  go_wp2_with fail
  refine (Wi.WInt_any _ W1.heap.size [] 0 _ HBF.out (by omega) (by omega) (by simp)).mono ?_
  rintro e W3 ⟨rfl, hp⟩
  obtain ⟨hb3, hk⟩ := Wi.BufAt.post HBF.out (fun b h => h) hp
  clear HBF
  have HBF : Hd (Wi.BufAt W3 W1.heap.size ([] ++ Wi.encI 0)) := hid hb3
  clear hp hb3
  have HX' : Hd (Sl (fun b => b < w.heap.size) W3 (.slice ad x.d.length cd) (u8s x.d)) := hid (HX.out.keep hk (fun b h1 h2 h3 => by omega))
  have BX' : Hd (Blk W3 w.heap.size #[(.int .i64 x.i), (.int .i64 x.f), (.int .i64 x.t), (.int .i64 x.g), (.int .i64 x.o), (.int .i64 x.a), (.int .u32 (x.s : Int)), (.slice ad x.d.length cd)] 59) := hid (blk_keep BX.out hk (fun h => by omega))
  clear HX BX
  have HX := HX'
  clear HX'
  have BX := BX'
  clear BX'
  have HK' : Hd (Keeps (fun _ => False) w W3) := hid (HK.out.trans' hk (fun i hi h => by omega))
  clear HK
  have HK := HK'
  clear HK'
  have z_W3 := hk.size
  clear hk
  have o_BX_0 : W3.cell? ⟨w.heap.size, 0, none⟩ = some ((.int .i64 x.i)) := blk_cell BX.out 0
  go_wp2_with fail
  refine (Wi.WInt_any _ W1.heap.size ([] ++ Wi.encI 0) x.i _ HBF.out HO.out.i.1 HO.out.i.2 (by have := HCL.out; simp only [List.length_append, List.length_nil] at *; omega)).mono ?_
  rintro e W4 ⟨rfl, hp⟩
  obtain ⟨hb3, hk⟩ := Wi.BufAt.post HBF.out (fun b h => h) hp
  clear HBF
  have HBF : Hd (Wi.BufAt W4 W1.heap.size (([] ++ Wi.encI 0) ++ Wi.encI x.i)) := hid hb3
  clear hp hb3
  clear o_BX_0
  have HX' : Hd (Sl (fun b => b < w.heap.size) W4 (.slice ad x.d.length cd) (u8s x.d)) := hid (HX.out.keep hk (fun b h1 h2 h3 => by omega))
  have BX' : Hd (Blk W4 w.heap.size #[(.int .i64 x.i), (.int .i64 x.f), (.int .i64 x.t), (.int .i64 x.g), (.int .i64 x.o), (.int .i64 x.a), (.int .u32 (x.s : Int)), (.slice ad x.d.length cd)] 59) := hid (blk_keep BX.out hk (fun h => by omega))
  clear HX BX
  have HX := HX'
  clear HX'
  have BX := BX'
  clear BX'
  have HK' : Hd (Keeps (fun _ => False) w W4) := hid (HK.out.trans' hk (fun i hi h => by omega))
  clear HK
  have HK := HK'
  clear HK'
  have z_W4 := hk.size
  clear hk
  have o_BX_3 : W4.cell? ⟨w.heap.size, 3, none⟩ = some ((.int .i64 x.g)) := blk_cell BX.out 3
  go_wp2_with fail
  refine (Wi.WInt_any _ W1.heap.size (([] ++ Wi.encI 0) ++ Wi.encI x.i) x.g _ HBF.out HO.out.g.1 HO.out.g.2 (by have := HCL.out; simp only [List.length_append, List.length_nil] at *; omega)).mono ?_
  rintro e W5 ⟨rfl, hp⟩
  obtain ⟨hb3, hk⟩ := Wi.BufAt.post HBF.out (fun b h => h) hp
  clear HBF
  have HBF : Hd (Wi.BufAt W5 W1.heap.size ((([] ++ Wi.encI 0) ++ Wi.encI x.i) ++ Wi.encI x.g)) := hid hb3
  clear hp hb3
  clear o_BX_3
  have HX' : Hd (Sl (fun b => b < w.heap.size) W5 (.slice ad x.d.length cd) (u8s x.d)) := hid (HX.out.keep hk (fun b h1 h2 h3 => by omega))
  have BX' : Hd (Blk W5 w.heap.size #[(.int .i64 x.i), (.int .i64 x.f), (.int .i64 x.t), (.int .i64 x.g), (.int .i64 x.o), (.int .i64 x.a), (.int .u32 (x.s : Int)), (.slice ad x.d.length cd)] 59) := hid (blk_keep BX.out hk (fun h => by omega))
  clear HX BX
  have HX := HX'
  clear HX'
  have BX := BX'
  clear BX'
  have HK' : Hd (Keeps (fun _ => False) w W5) := hid (HK.out.trans' hk (fun i hi h => by omega))
  clear HK
  have HK := HK'
  clear HK'
  have z_W5 := hk.size
  clear hk
  have o_BX_4 : W5.cell? ⟨w.heap.size, 4, none⟩ = some ((.int .i64 x.o)) := blk_cell BX.out 4
  go_wp2_with fail
  refine (Wi.WInt_any _ W1.heap.size ((([] ++ Wi.encI 0) ++ Wi.encI x.i) ++ Wi.encI x.g) x.o _ HBF.out HO.out.o.1 HO.out.o.2 (by have := HCL.out; simp only [List.length_append, List.length_nil] at *; omega)).mono ?_
  rintro e W6 ⟨rfl, hp⟩
  obtain ⟨hb3, hk⟩ := Wi.BufAt.post HBF.out (fun b h => h) hp
  clear HBF
  have HBF : Hd (Wi.BufAt W6 W1.heap.size (((([] ++ Wi.encI 0) ++ Wi.encI x.i) ++ Wi.encI x.g) ++ Wi.encI x.o)) := hid hb3
  clear hp hb3
  clear o_BX_4
  have HX' : Hd (Sl (fun b => b < w.heap.size) W6 (.slice ad x.d.length cd) (u8s x.d)) := hid (HX.out.keep hk (fun b h1 h2 h3 => by omega))
  have BX' : Hd (Blk W6 w.heap.size #[(.int .i64 x.i), (.int .i64 x.f), (.int .i64 x.t), (.int .i64 x.g), (.int .i64 x.o), (.int .i64 x.a), (.int .u32 (x.s : Int)), (.slice ad x.d.length cd)] 59) := hid (blk_keep BX.out hk (fun h => by omega))
  clear HX BX
  have HX := HX'
  clear HX'
  have BX := BX'
  clear BX'
  have HK' : Hd (Keeps (fun _ => False) w W6) := hid (HK.out.trans' hk (fun i hi h => by omega))
  clear HK
  have HK := HK'
  clear HK'
  have z_W6 := hk.size
  clear hk
  have o_BX_5 : W6.cell? ⟨w.heap.size, 5, none⟩ = some ((.int .i64 x.a)) := blk_cell BX.out 5
  go_wp2_with fail
  refine (Wi.WInt_any _ W1.heap.size (((([] ++ Wi.encI 0) ++ Wi.encI x.i) ++ Wi.encI x.g) ++ Wi.encI x.o) x.a _ HBF.out HO.out.a.1 HO.out.a.2 (by have := HCL.out; simp only [List.length_append, List.length_nil] at *; omega)).mono ?_
  rintro e W7 ⟨rfl, hp⟩
  obtain ⟨hb3, hk⟩ := Wi.BufAt.post HBF.out (fun b h => h) hp
  clear HBF
  have HBF : Hd (Wi.BufAt W7 W1.heap.size ((((([] ++ Wi.encI 0) ++ Wi.encI x.i) ++ Wi.encI x.g) ++ Wi.encI x.o) ++ Wi.encI x.a)) := hid hb3
  clear hp hb3
  clear o_BX_5
  have HX' : Hd (Sl (fun b => b < w.heap.size) W7 (.slice ad x.d.length cd) (u8s x.d)) := hid (HX.out.keep hk (fun b h1 h2 h3 => by omega))
  have BX' : Hd (Blk W7 w.heap.size #[(.int .i64 x.i), (.int .i64 x.f), (.int .i64 x.t), (.int .i64 x.g), (.int .i64 x.o), (.int .i64 x.a), (.int .u32 (x.s : Int)), (.slice ad x.d.length cd)] 59) := hid (blk_keep BX.out hk (fun h => by omega))
  clear HX BX
  have HX := HX'
  clear HX'
  have BX := BX'
  clear BX'
  have HK' : Hd (Keeps (fun _ => False) w W7) := hid (HK.out.trans' hk (fun i hi h => by omega))
  clear HK
  have HK := HK'
  clear HK'
  have z_W7 := hk.size
  clear hk
  have o_BX_6 : W7.cell? ⟨w.heap.size, 6, none⟩ = some ((.int .u32 (x.s : Int))) := blk_cell BX.out 6
  go_wp2_with fail
  refine (Wi.WUint_any _ W1.heap.size ((((([] ++ Wi.encI 0) ++ Wi.encI x.i) ++ Wi.encI x.g) ++ Wi.encI x.o) ++ Wi.encI x.a) x.s _ HBF.out (by have := HO.out.s; omega) (by have := HCL.out; simp only [List.length_append, List.length_nil] at *; omega)).mono ?_
  rintro e W8 ⟨rfl, hp⟩
  obtain ⟨hb3, hk⟩ := Wi.BufAt.post HBF.out (fun b h => h) hp
  clear HBF
  have HBF : Hd (Wi.BufAt W8 W1.heap.size (((((([] ++ Wi.encI 0) ++ Wi.encI x.i) ++ Wi.encI x.g) ++ Wi.encI x.o) ++ Wi.encI x.a) ++ Wi.enc x.s)) := hid hb3
  clear hp hb3
  clear o_BX_6
  have HX' : Hd (Sl (fun b => b < w.heap.size) W8 (.slice ad x.d.length cd) (u8s x.d)) := hid (HX.out.keep hk (fun b h1 h2 h3 => by omega))
  have BX' : Hd (Blk W8 w.heap.size #[(.int .i64 x.i), (.int .i64 x.f), (.int .i64 x.t), (.int .i64 x.g), (.int .i64 x.o), (.int .i64 x.a), (.int .u32 (x.s : Int)), (.slice ad x.d.length cd)] 59) := hid (blk_keep BX.out hk (fun h => by omega))
  clear HX BX
  have HX := HX'
  clear HX'
  have BX := BX'
  clear BX'
  have HK' : Hd (Keeps (fun _ => False) w W8) := hid (HK.out.trans' hk (fun i hi h => by omega))
  clear HK
  have HK := HK'
  clear HK'
  have z_W8 := hk.size
  clear hk
  have o_BX_7 : W8.cell? ⟨w.heap.size, 7, none⟩ = some ((.slice ad x.d.length cd)) := blk_cell BX.out 7
  go_wp2_with fail
  refine (Wi.WBytes_any _ (fun b => b < w.heap.size) W1.heap.size (((((([] ++ Wi.encI 0) ++ Wi.encI x.i) ++ Wi.encI x.g) ++ Wi.encI x.o) ++ Wi.encI x.a) ++ Wi.enc x.s) _ x.d _ HBF.out HX.out (fun k hk hK => ⟨by omega, by omega⟩) (by have := HCL.out; simp only [List.length_append, List.length_nil] at *; omega)).mono ?_
  rintro e W9 ⟨rfl, hp⟩
  obtain ⟨hb3, hk⟩ := Wi.BufAt.post HBF.out (fun b h => h) hp
  clear HBF
  have HBF : Hd (Wi.BufAt W9 W1.heap.size ((((((([] ++ Wi.encI 0) ++ Wi.encI x.i) ++ Wi.encI x.g) ++ Wi.encI x.o) ++ Wi.encI x.a) ++ Wi.enc x.s) ++ Wi.encB x.d)) := hid hb3
  clear hp hb3
  clear o_BX_7
  have HX' : Hd (Sl (fun b => b < w.heap.size) W9 (.slice ad x.d.length cd) (u8s x.d)) := hid (HX.out.keep hk (fun b h1 h2 h3 => by omega))
  have BX' : Hd (Blk W9 w.heap.size #[(.int .i64 x.i), (.int .i64 x.f), (.int .i64 x.t), (.int .i64 x.g), (.int .i64 x.o), (.int .i64 x.a), (.int .u32 (x.s : Int)), (.slice ad x.d.length cd)] 59) := hid (blk_keep BX.out hk (fun h => by omega))
  clear HX BX
  have HX := HX'
  clear HX'
  have BX := BX'
  clear BX'
  have HK' : Hd (Keeps (fun _ => False) w W9) := hid (HK.out.trans' hk (fun i hi h => by omega))
  clear HK
  have HK := HK'
  clear HK'
  have z_W9 := hk.size
  clear hk
  go_wp2_with fail
  refine (Wi.WDone_any _ W1.heap.size ((((((([] ++ Wi.encI 0) ++ Wi.encI x.i) ++ Wi.encI x.g) ++ Wi.encI x.o) ++ Wi.encI x.a) ++ Wi.enc x.s) ++ Wi.encB x.d) _ HBF.out (by have := HCL.out; simp only [List.length_append, List.length_nil]; omega)).mono ?_
  rintro e W10 ⟨ad, nd, cd, rfl, hnd, hod, hk⟩
  have HOD := hid hod; have HND := hid hnd; have HK9 := hid (HK.out.trans hk)
  have z9 := HK.out.size
  clear hod hnd HBF hk
  go_wp2
  go_ret
  exact ⟨ad, nd, cd, rfl, HND.out.trans (by rw [show (((((([] ++ Wi.encI 0) ++ Wi.encI x.i) ++ Wi.encI x.g) ++ Wi.encI x.o) ++ Wi.encI x.a) ++ Wi.enc x.s) ++ Wi.encB x.d = offL x by unfold offL; simp only [List.nil_append, List.append_assoc]]), by have h := HOD.out.mono (K' := fun b => w.heap.size ≤ b) (fun b _ h => by omega); rw [show (((((([] ++ Wi.encI 0) ++ Wi.encI x.i) ++ Wi.encI x.g) ++ Wi.encI x.o) ++ Wi.encI x.a) ++ Wi.enc x.s) ++ Wi.encB x.d = offL x by unfold offL; simp only [List.nil_append, List.append_assoc]] at h; exact h, HK9.out⟩
end Go.Proofs.YtgfekgceeigdiaaDoor
namespace Go.Proofs.YtgfekgceeigdiaaDoor
open Go.RowKit
attribute [local go_sem ↓] Go.wp_at_zero Go.wp_at_succ
theorem two_of {cs : Array Value} (h : cs.size = 2) : ∃ u0 u1, cs = #[u0, u1] := by
  obtain ⟨l⟩ := cs
  have hz : l.length = 2 := h
  match l, hz with
  | [u0, u1], _ => exact ⟨u0, u1, rfl⟩
theorem four_of {cs : Array Value} (h : cs.size = 4) : ∃ u0 u1 u2 u3, cs = #[u0, u1, u2, u3] := by
  obtain ⟨l⟩ := cs
  have hz : l.length = 4 := h
  match l, hz with
  | [u0, u1, u2, u3], _ => exact ⟨u0, u1, u2, u3, rfl⟩
theorem blkset4 {X : World} {b : Nat} {T : TypeId} {c0 c1 c2 c3 u0 u1 u2 u3 : Value} (h : Blk X b #[c0, c1, c2, c3] T) : Blk ((((X.setCell ⟨b, 0, none⟩ u0).setCell ⟨b, 1, none⟩ u1).setCell ⟨b, 2, none⟩ u2).setCell ⟨b, 3, none⟩ u3) b #[u0, u1, u2, u3] T := by
  have h := blk_set (blk_set (blk_set (blk_set h 0 u0) 1 u1) 2 u2) 3 u3
  simp only [List.setIfInBounds_toArray, List.set_cons_zero, List.set_cons_succ] at h
  exact h
theorem blkset2 {X : World} {b : Nat} {T : TypeId} {c0 c1 u0 u1 : Value} (h : Blk X b #[c0, c1] T) : Blk ((X.setCell ⟨b, 0, none⟩ u0).setCell ⟨b, 1, none⟩ u1) b #[u0, u1] T := by
  have h := blk_set (blk_set h 0 u0) 1 u1
  simp only [List.setIfInBounds_toArray, List.set_cons_zero, List.set_cons_succ] at h
  exact h
set_option maxRecDepth 100000 in
set_option maxHeartbeats 4000000 in
theorem st_link {w : World} {b : Nat} {cs : Array Value} (hb : Blk w b cs 48) (hz : cs.size = 2) (a : Option Addr) (n c : Nat) (i : Int) :
    ∃ w', (Instr.storeAt 48 (.pointer (some ⟨b, 0, none⟩)) (.agg #[.slice a n c, .int .i64 i])).run Tryd.prog w = .ok () w' ∧ Keeps (fun k => k = b) w w' ∧ Blk w' b #[.slice a n c, .int .i64 i] 48 := by
  obtain ⟨q0, q1, rfl⟩ := two_of hz
  have g0 := blk_cell hb 0; have g1 := blk_cell hb 1
  have f0 := blk_free hb 0; have f1 := blk_free hb 1
  simp only [List.getElem?_toArray, List.getElem?_cons_zero, List.getElem?_cons_succ] at g0 g1
  refine ⟨(w.setCell ⟨b, 0, none⟩ (.slice a n c)).setCell ⟨b, 1, none⟩ (.int .i64 i), ?_, keq (keq (Keeps.refl _ _) _ _) _ _, blkset2 hb⟩
  go_simp
set_option maxRecDepth 100000 in
set_option maxHeartbeats 4000000 in
theorem st_store {w : World} {b : Nat} {cs : Array Value} (hb : Blk w b cs 44) (hz : cs.size = 4) (q : Int) (a0 a1 a2 : Option Addr) (n0 n1 n2 c0 c1 c2 : Nat) :
    ∃ w', (Instr.storeAt 44 (.pointer (some ⟨b, 0, none⟩)) (.agg #[.int .i64 q, .slice a0 n0 c0, .slice a1 n1 c1, .slice a2 n2 c2])).run Tryd.prog w = .ok () w' ∧ Keeps (fun k => k = b) w w' ∧ Blk w' b #[.int .i64 q, .slice a0 n0 c0, .slice a1 n1 c1, .slice a2 n2 c2] 44 := by
  obtain ⟨q0, q1, q2, q3, rfl⟩ := four_of hz
  have g0 := blk_cell hb 0; have g1 := blk_cell hb 1; have g2 := blk_cell hb 2; have g3 := blk_cell hb 3
  have f0 := blk_free hb 0; have f1 := blk_free hb 1; have f2 := blk_free hb 2; have f3 := blk_free hb 3
  simp only [List.getElem?_toArray, List.getElem?_cons_zero, List.getElem?_cons_succ] at g0 g1 g2 g3
  refine ⟨(((w.setCell ⟨b, 0, none⟩ (.int .i64 q)).setCell ⟨b, 1, none⟩ (.slice a0 n0 c0)).setCell ⟨b, 2, none⟩ (.slice a1 n1 c1)).setCell ⟨b, 3, none⟩ (.slice a2 n2 c2), ?_, keep4 _ _ _ _ _ _, blkset4 hb⟩
  go_simp
/-- one variable, set to a part of a call's results -/
theorem oneSem (T : TypeId) (Z : Array Value) (calls : List Nat) (deps : List (Nat × List Nat)) (ai si xi c : Nat) (fl : List ((Nat → Value) → Value)) (R : Nat → (Nat → Prop) → Value → World → Prop) (pt : Value → Value) (hx : fl.getD xi (fun _ => undef) = fun r => pt (r c)) (hP : deps.any (fun x => x.1 == si && x.2.contains c) = true)
    (hal : ∀ w, (Instr.alloc T true (.tuple #[])).run Tryd.prog w = .ok (.pointer (some ⟨w.heap.size, 0, none⟩)) (w.alloc (.cells Z T)))
    (hrk : ∀ c (K S : Nat → Prop) r w w', R c K r w → Keeps S w w' → (∀ b, b < w.heap.size → K b → ¬ S b) → R c K r w') (hrm : ∀ c (K K' : Nat → Prop) r w, R c K r w → (∀ b, b < w.heap.size → K b → K' b) → R c K' r w)
    (hst : ∀ K r w, R c K r w → ∀ b cs, Blk w b cs T → cs.size = Z.size → ∃ w', (Instr.storeAt T (.pointer (some ⟨b, 0, none⟩)) (pt r)).run Tryd.prog w = .ok () w' ∧ Keeps (fun k => k = b) w w' ∧ Blk w' b (aggCells (pt r)) T ∧ (aggCells (pt r)).size = Z.size) :
    Mm.MSem Tryd.prog (Mm.mkMC calls deps [(ai, T, Z)] [(si, ai, xi)] fl (fun _ r => aggCells (pt (r c))) R) where
  al := fun j w h => by
    have hj : ai = j := by simpa [Mm.mkMC] using h
    subst hj
    have e1 : (Mm.mkMC calls deps [(ai, T, Z)] [(si, ai, xi)] fl (fun _ r => aggCells (pt (r c))) R).T ai = T := by simp [Mm.mkMC]
    have e2 : (Mm.mkMC calls deps [(ai, T, Z)] [(si, ai, xi)] fl (fun _ r => aggCells (pt (r c))) R).z ai = Z := by simp [Mm.mkMC]
    rw [e1, e2]
    exact hal w
  rk := hrk
  rm := hrm
  st := fun s r w b cs hs h hb hz => by
    have hj : si = s := by simpa [Mm.mkMC] using hs
    subst hj
    obtain ⟨K, hR⟩ := h c hP
    have t1 : (Mm.mkMC calls deps [(ai, T, Z)] [(si, ai, xi)] fl (fun _ r => aggCells (pt (r c))) R).tgt si = ai := by simp [Mm.mkMC]
    have t2 : (Mm.mkMC calls deps [(ai, T, Z)] [(si, ai, xi)] fl (fun _ r => aggCells (pt (r c))) R).src si = xi := by simp [Mm.mkMC]
    have t3 : (Mm.mkMC calls deps [(ai, T, Z)] [(si, ai, xi)] fl (fun _ r => aggCells (pt (r c))) R).T ai = T := by simp [Mm.mkMC]
    have t4 : (Mm.mkMC calls deps [(ai, T, Z)] [(si, ai, xi)] fl (fun _ r => aggCells (pt (r c))) R).z ai = Z := by simp [Mm.mkMC]
    have t5 : (Mm.mkMC calls deps [(ai, T, Z)] [(si, ai, xi)] fl (fun _ r => aggCells (pt (r c))) R).V xi r = pt (r c) := by show fl.getD xi (fun _ => undef) r = _; rw [hx]
    rw [t1, t3] at hb
    rw [t1, t4] at hz
    rw [t1, t2, t3, t4, t5]
    exact hst K (r c) w hR b cs hb hz
def wideW : List Li.Win := [⟨1, 1, 0, 0, 1000, 1000⟩, ⟨2, 0, 1, 0, 1000, 1000⟩]
set_option maxRecDepth 100000 in set_option maxHeartbeats 1000000 in
theorem wide_any (w : World) : Calls Tryd.prog 57 #[] w fun e w' => ∃ x, e = .returned (.slice (some x) 2 2) ∧ Li.Wins (fun b => w.heap.size ≤ b) w' (.slice (some x) 2 2) wideW ∧ Keeps (fun _ => False) w w' := by
  go_enter Tryd.func57, Tryd.ntmps57
  go_wp2
  go_ret
  refine ⟨_, rfl, ⟨_, 2, rfl, Nat.le_refl _, by decide, fun k hk => ?_⟩, keeps_alloc _ _ _⟩
  have hB := blk_new w #[.int .i64 1, .int .i64 1, .int .i64 0, .int .i64 0, .int .i64 1000, .int .i64 1000, .int .i64 2, .int .i64 0, .int .i64 1, .int .i64 0, .int .i64 1000, .int .i64 1000] 146
  match k, hk with
  | 0, _ => exact ⟨w.heap.size, 0, _, rfl, Nat.le_refl _, by simp, rfl, blk_cell hB 0, blk_cell hB 1, blk_cell hB 2, blk_cell hB 3, blk_cell hB 4, blk_cell hB 5⟩
  | 1, _ => exact ⟨w.heap.size, 0, _, rfl, Nat.le_refl _, by simp, rfl, blk_cell hB 6, blk_cell hB 7, blk_cell hB 8, blk_cell hB 9, blk_cell hB 10, blk_cell hB 11⟩
  | k + 2, hk => exact absurd hk (by simp [wideW])
def sendRel (w0 : World) (m : Nat) (data : List Nat) (R : List Li.Flt × Int × Bool) : Nat → (Nat → Prop) → Value → World → Prop := fun c K v w =>
  if c = 4 then ∃ x, v = .slice (some x) 2 2 ∧ Li.Wins K w v wideW
  else if c = 15 then ∃ a c, v = .slice a m c ∧ Sl K w v (u8s data)
  else ∃ a n c, v = .tuple #[.agg #[.slice a n c, .int .i64 R.2.1], .bool R.2.2] ∧ n = R.1.length ∧ Li.Fls (fun b => K b ∧ w0.heap.size ≤ b) w (.slice a n c) R.1
theorem sendRel_k {w0 : World} {m : Nat} {data : List Nat} {R : List Li.Flt × Int × Bool} : ∀ c (K S : Nat → Prop) r w w', sendRel w0 m data R c K r w → Keeps S w w' → (∀ b, b < w.heap.size → K b → ¬ S b) → sendRel w0 m data R c K r w' := by
  intro c K S r w w' h hk hd
  unfold sendRel at *
  split
  · rename_i e; rw [if_pos e] at h; obtain ⟨x, h1, h2⟩ := h; exact ⟨x, h1, h2.keep hk hd⟩
  · rename_i e; rw [if_neg e] at h
    split
    · rename_i e; rw [if_pos e] at h; obtain ⟨a, c, h1, h2⟩ := h; exact ⟨a, c, h1, h2.keep hk hd⟩
    · rename_i e; rw [if_neg e] at h; obtain ⟨a, n, c, h1, h2, h3⟩ := h; exact ⟨a, n, c, h1, h2, h3.keep hk (fun b hb h => hd b hb h.1)⟩
theorem sendRel_m {w0 : World} {m : Nat} {data : List Nat} {R : List Li.Flt × Int × Bool} : ∀ c (K K' : Nat → Prop) r w, sendRel w0 m data R c K r w → (∀ b, b < w.heap.size → K b → K' b) → sendRel w0 m data R c K' r w := by
  intro c K K' r w h hd
  unfold sendRel at *
  split
  · rename_i e; rw [if_pos e] at h; obtain ⟨x, h1, h2⟩ := h; exact ⟨x, h1, h2.mono hd⟩
  · rename_i e; rw [if_neg e] at h
    split
    · rename_i e; rw [if_pos e] at h; obtain ⟨a, c, h1, h2⟩ := h; exact ⟨a, c, h1, h2.mono hd⟩
    · rename_i e; rw [if_neg e] at h; obtain ⟨a, n, c, h1, h2, h3⟩ := h; exact ⟨a, n, c, h1, h2, h3.mono (fun b hb h => ⟨hd b hb h.1, h.2⟩)⟩
set_option maxRecDepth 100000 in
set_option maxHeartbeats 4000000 in
theorem send_any (p : Nat) (s0 s1 s2 s3 s4 s5 s6 s7 s8 s9 s10 s11 : Value) (vfa fa : Option Addr) (vfc fc : Nat) (cn tick fr tt : Int) (l : List Li.Flt) (fts : List Li.Ft) (ad : Option Addr) (cd : Nat) (bs : List Nat) (w : World) (hN : Cr.Nib w) (hB : Blk w p #[s0, s1, s2, s3, s4, s5, s6, s7, s8, s9, s10, s11, .slice vfa l.length vfc, .int .i64 cn, .slice fa fts.length fc] 50)
    (hl : Li.Fls (fun _ => True) w (.slice vfa l.length vfc) l) (hfs : Li.Fts (fun _ => True) w (.slice fa fts.length fc) fts) (hd : Sl (fun _ => True) w (.slice ad bs.length cd) (u8s bs)) (hb8 : ∀ c ∈ bs, c < 256) (hbl : bs.length ≤ 1000)
    (hlen : l.length ≤ 900000) (hld : ∀ x ∈ l, x.d.length ≤ 1000000000) (hfl : fts.length ≤ 1000000) (hff : ∀ x ∈ fts, x.fg.length ≤ 1000000000) (h1 : 0 ≤ fr ∧ fr ≤ 2) (h2 : 0 ≤ tt ∧ tt ≤ 2) (h3 : 0 ≤ tick ∧ tick ≤ 1000000000000) (h4 : 0 ≤ cn ∧ cn ≤ 1000000000000)
    (R : List Li.Flt × Int × Bool) (hR : Li.sendL l cn wideW fts tick (node fr) (node tt) (Cr.seal_ bs) = R) :
    Calls Tryd.prog 35 #[.pointer (some ⟨p, 0, none⟩), .int .i64 tick, .int .i64 fr, .int .i64 tt, .slice ad bs.length cd] w fun e w' => e = .returned (.tuple #[]) ∧ ∃ a c, Blk w' p #[s0, s1, s2, s3, s4, s5, s6, s7, s8, s9, s10, s11, .slice a R.1.length c, .int .i64 R.2.1, .slice fa fts.length fc] 50 ∧
      Li.Fls (fun b => w.heap.size ≤ b) w' (.slice a R.1.length c) R.1 ∧ Keeps (fun b => b = p) w w' := by
  have HN : Hd (NibF w) := hid hN
  have HB := hid hB
  have HL := hid (hl.mono (K' := fun b => b < w.heap.size) (fun b h _ => h)); have HF := hid (Li.Fls.mono (K' := fun b => b < w.heap.size) hfs (fun b h _ => h)); have HD := hid (hd.mono (K' := fun b => b < w.heap.size) (fun b h _ => h)); have HB8 := hid hb8
  have HLD := hid hld; have HFF := hid hff; have HR := hid hR
  have HSL : Hd ((Cr.seal_ bs).length ≤ 2000) := hid (by rw [Cr.seal_len]; omega)
  have hn1 : -9223372036854775808 ≤ node fr ∧ node fr ≤ 9223372036854775807 := by unfold node; split <;> omega
  have hn2 : -9223372036854775808 ≤ node tt ∧ node tt ≤ 9223372036854775807 := by unfold node; split <;> omega
  clear hN hB hl hfs hd hb8 hld hff hR
  obtain ⟨vfn, hvn⟩ : ∃ n, l.length = n := ⟨_, rfl⟩
  obtain ⟨fn, hfn⟩ : ∃ n, fts.length = n := ⟨_, rfl⟩
  obtain ⟨bn, hbn⟩ : ∃ n, bs.length = n := ⟨_, rfl⟩
  obtain ⟨sn, hsn⟩ : ∃ n, (Cr.seal_ bs).length = n := ⟨_, rfl⟩
  have HVN := hid hvn; have HFN := hid hfn; have HBN := hid hbn; have HSN := hid hsn
  rw [hvn] at HB HL hlen
  rw [hfn] at HB hfl ⊢
  rw [hbn] at HD hbl ⊢
  have HFX : Hd (Li.Fts (fun b => b < w.heap.size) w (.slice fa fn fc) fts) := hid (by have h := HF.out; rw [hfn] at h; exact h)
  clear hvn hfn hbn hsn HF
  have HWL : Hd (wideW.length = 2) := hid rfl
  have HCS : Hd (∀ (X : World) (xw : Addr) (sa : Option Addr) (sc : Nat), Keeps (fun _ => False) w X → Li.Wins (fun b => b < X.heap.size) X (.slice (some xw) 2 2) wideW → Sl (fun b => b < X.heap.size) X (.slice sa sn sc) (u8s (Cr.seal_ bs)) →
      Calls Tryd.prog 56 #[.agg #[.slice vfa vfn vfc, .int .i64 cn], .slice (some xw) 2 2, .slice fa fn fc, .int .i64 tick, .agg #[.int .i64 (node fr), .int .i64 (node tt), .slice sa sn sc]] X fun e w' => ∃ v, e = .returned v ∧ Keeps (fun _ => False) X w' ∧ ∃ a n c, v = .tuple #[.agg #[.slice a n c, .int .i64 R.2.1], .bool R.2.2] ∧ n = R.1.length ∧ Li.Fls (fun b => X.heap.size ≤ b) w' (.slice a n c) R.1) := hid (fun X xw sa sc hk hw hsl => by
    have zk := hk.size
    have h := Li.Send_any (.slice vfa vfn vfc) (.slice (some xw) 2 2) (.slice fa fn fc) l wideW fts cn tick (node fr) (node tt) sa sc (Cr.seal_ bs) X ((HL.out.keep hk (fun _ _ _ h => h)).mono (fun b hb _ => hb)) hw (Li.Fls.mono (Li.Fls.keep HFX.out hk (fun _ _ _ h => h)) (fun b hb _ => hb)) (by rw [HSN.out]; exact hsl) (Cr.seal_lt HB8.out) (by rw [HVN.out]; omega) HLD.out (by rw [HFN.out]; omega) HFF.out (by have := HSL.out; omega) hn1 hn2 h3 h4
    rw [HR.out, HSN.out] at h
    refine h.mono ?_
    rintro e w' ⟨a, n, c, rfl, hn, hf, hk2⟩
    exact ⟨_, rfl, hk2, a, n, c, rfl, hn, hf.fls⟩)
  have HCSL : Hd (∀ X, Keeps (fun _ => False) w X → Calls Tryd.prog 58 #[.slice ad bn cd] X fun e w' => ∃ v, e = .returned v ∧ Keeps (fun _ => False) X w' ∧ ∃ a c, v = .slice a sn c ∧ Sl (fun b => X.heap.size ≤ b) w' v (u8s (Cr.seal_ bs))) := hid (fun X hk => by
    have h := Cr.Seal_any (fun b => b < w.heap.size) (.slice ad bn cd) bs X (HN.out.keep hk (fun _ _ _ h => h)) (HD.out.keep hk (fun _ _ _ h => h)) HB8.out (by rw [HBN.out]; omega)
    refine h.mono ?_
    rintro e w' ⟨a, n, c, rfl, hn, ho, hk2⟩
    have hn2 : n = sn := by rw [hn, u8s_length, HSN.out]
    subst hn2
    exact ⟨_, rfl, hk2, a, c, rfl, row_sl ho.row hn.symm⟩)
  have HCW : Hd (∀ X : World, Calls Tryd.prog 57 #[] X fun e w' => ∃ x, e = .returned (.slice (some x) 2 2) ∧ Li.Wins (fun b => X.heap.size ≤ b) w' (.slice (some x) 2 2) wideW ∧ Keeps (fun _ => False) X w') := hid wide_any
  go_enter Tryd.func35, Tryd.ntmps35
  go_upto_region 0 with fail
  refine Mm.wp_many (C := Mm.mkMC [4, 15, 17] [(4, [4]), (15, [15]), (16, [15]), (17, [17, 4, 15]), (18, [17, 4, 15]), (19, [17, 4, 15]), (20, [17, 4, 15]), (22, [17, 4, 15]), (23, [17, 4, 15])] [(21, 48, #[(.slice none 0 0), (.int .i64 0)])] [(22, 21, 19)] [(fun r => .pointer (some ⟨p, 0, none⟩)), (fun r => .pointer (some ⟨p, 0, none⟩)), (fun r => .pointer (some ⟨p, 12, none⟩)), (fun r => .agg #[.slice vfa vfn vfc, .int .i64 cn]), (fun r => r 4), (fun r => .pointer (some ⟨p, 0, none⟩)), (fun r => .pointer (some ⟨p, 0, none⟩)), (fun r => .pointer (some ⟨p, 14, none⟩)), (fun r => .slice fa fn fc), (fun r => .int .i64 tick), (fun r => .int .i64 fr), (fun r => .int .i64 (node fr)), (fun r => .int .i64 tt), (fun r => .int .i64 (node tt)), (fun r => .slice ad bn cd), (fun r => r 15), (fun r => .agg #[.int .i64 (node fr), .int .i64 (node tt), r 15]), (fun r => r 17), (fun r => r 17), (fun r => Mm.tupAt (r 17) 0), (fun r => Mm.tupAt (r 17) 1), (fun _ => undef), (fun _ => undef), (fun r => Mm.tupAt (r 17) 1)] (fun _ r => aggCells (Mm.tupAt (r 17) 0)) (sendRel w sn (Cr.seal_ bs) R)) (by kernel_rfl) ?H ?HV ?HC ?HE
  case H =>
    refine { back := by kernel_rfl, dst := uniqB_spec (by kernel_rfl), szd := underB_spec (by kernel_rfl), val := Mm.valB_spec3 (f := Mm.mkV [(21, 48, #[(.slice none 0 0), (.int .i64 0)])] [(22, 21, 19)]) (by kernel_rfl), alo := ?_, sto := ?_, stc := ?_, all := Mm.allB3_spec (f := Mm.mkV [(21, 48, #[(.slice none 0 0), (.int .i64 0)])] [(22, 21, 19)]) (g := Mm.mkA [(21, 48, #[(.slice none 0 0), (.int .i64 0)])]) (h := Mm.mkS [(22, 21, 19)]) (by kernel_rfl), nva := ?_, nvs := ?_, one := ?_, civ := ?_, nd := ?_, ndc := ?_, pc := Mm.pcB_spec (by kernel_rfl), dd := Mm.ddB_spec (by kernel_rfl), sem := oneSem 48 #[.slice none 0 0, .int .i64 0] _ _ 21 22 19 17 _ _ (fun v => Mm.tupAt v 0) rfl rfl (fun w => by go_simp) sendRel_k sendRel_m (fun K r w h b cs hb hz => by obtain ⟨a, n, c, rfl, hn, -⟩ := h; obtain ⟨w', e1, e2, e3⟩ := st_link hb hz a n c R.2.1; exact ⟨w', e1, e2, e3, rfl⟩) }
    · intro j o h0 ha
      have h1 : 21 = j := by simpa [Mm.mkMC] using ha
      subst h1
      all_goals
        have h2 := h0
        simp only [List.getElem?_cons_succ, List.getElem?_cons_zero, Option.some.injEq] at h2
        subst h2
        exact ⟨⟨_, rfl⟩, rfl, rfl⟩
    · intro s o h0 ha
      have h1 : 22 = s := by simpa [Mm.mkMC] using ha
      subst h1
      all_goals
        have h2 := h0
        simp only [List.getElem?_cons_succ, List.getElem?_cons_zero, Option.some.injEq] at h2
        subst h2
        exact ⟨_, _, _, _, rfl, rfl, rfl, rfl, rfl, rfl, rfl, waitsB_spec (by kernel_rfl), waitsB_spec (by kernel_rfl)⟩
    · intro s ha
      have h1 : 22 = s := by simpa [Mm.mkMC] using ha
      subst h1
      all_goals exact ⟨rfl, rfl⟩
    · intro s ha
      have h1 : 21 = s := by simpa [Mm.mkMC] using ha
      subst h1
      all_goals exact ⟨rfl, rfl, fun c => by simp [Mm.mkMC]⟩
    · intro s ha
      have h1 : 22 = s := by simpa [Mm.mkMC] using ha
      subst h1
      all_goals exact ⟨rfl, rfl⟩
    · intro s t ha hb hst
      have h1 : 22 = s := by simpa [Mm.mkMC] using ha
      subst h1
      all_goals (have h2 : 22 = t := by simpa [Mm.mkMC] using hb)
      exact h2
    · intro c hc
      have h1 : c = 4 ∨ c = 15 ∨ c = 17 := by simpa [Mm.mkMC] using hc
      rcases h1 with rfl | rfl | rfl
      all_goals exact ⟨rfl, rfl, fun _ => rfl⟩
    · intro i r r' hv hD
      match i, hD with
      | 0, _ => rfl
      | 1, _ => rfl
      | 2, _ => rfl
      | 3, _ => rfl
      | 4, hD => exact (show (r 4 : Value) = r' 4 by rw [hD 4 rfl])
      | 5, _ => rfl
      | 6, _ => rfl
      | 7, _ => rfl
      | 8, _ => rfl
      | 9, _ => rfl
      | 10, _ => rfl
      | 11, _ => rfl
      | 12, _ => rfl
      | 13, _ => rfl
      | 14, _ => rfl
      | 15, hD => exact (show (r 15 : Value) = r' 15 by rw [hD 15 rfl])
      | 16, hD => exact (show (.agg #[.int .i64 (node fr), .int .i64 (node tt), r 15] : Value) = .agg #[.int .i64 (node fr), .int .i64 (node tt), r' 15] by rw [hD 15 rfl])
      | 17, hD => exact (show (r 17 : Value) = r' 17 by rw [hD 17 rfl])
      | 18, hD => exact (show (r 17 : Value) = r' 17 by rw [hD 17 rfl])
      | 19, hD => exact (show (Mm.tupAt (r 17) 0 : Value) = Mm.tupAt (r' 17) 0 by rw [hD 17 rfl])
      | 20, hD => exact (show (Mm.tupAt (r 17) 1 : Value) = Mm.tupAt (r' 17) 1 by rw [hD 17 rfl])
      | 21, _ => rfl
      | 22, _ => rfl
      | 23, hD => exact (show (Mm.tupAt (r 17) 1 : Value) = Mm.tupAt (r' 17) 1 by rw [hD 17 rfl])
      | n + 24, _ => rfl
    · intro s r r' ha hD
      have h1 : 22 = s := by simpa [Mm.mkMC] using ha
      subst h1
      · show ((fun _ r => aggCells (Mm.tupAt (r 17) 0)) : Nat → (Nat → Value) → Array Value) 22 r = ((fun _ r => aggCells (Mm.tupAt (r 17) 0)) : Nat → (Nat → Value) → Array Value) 22 r'
        simp only [hD 17 rfl]
  case HV =>
    intro iq o hv hnc hi aq w' r hk hd hR
    match iq, hv, hnc, hi, hR with
    | 0, _, _, hi, hR =>
      have hi1 := hi
      simp only [List.getElem?_cons_succ, List.getElem?_cons_zero, Option.some.injEq] at hi1
      subst hi1
      have e0 : aq.eval (.tmp 0) = .pointer (some ⟨p, 0, none⟩) := (hd.out (by kernel_rfl)).trans rfl
      exact wpOp_ranL hi rfl (v := .pointer (some ⟨p, 0, none⟩)) (w' := w') (by simp only [execOp, e0]; rfl) ⟨rfl, Keeps.refl _ _⟩
    | 1, _, _, hi, hR =>
      have hi1 := hi
      simp only [List.getElem?_cons_succ, List.getElem?_cons_zero, Option.some.injEq] at hi1
      subst hi1
      have e0 : aq.eval (.tmp 13) = .pointer (some ⟨p, 0, none⟩) := hd.val (j := 0) (by kernel_rfl) rfl rfl rfl
      exact wpOp_ranL hi rfl (v := .pointer (some ⟨p, 0, none⟩)) (w' := w') (by simp only [execOp, e0]; rfl) ⟨rfl, Keeps.refl _ _⟩
    | 2, _, _, hi, hR =>
      have hi1 := hi
      simp only [List.getElem?_cons_succ, List.getElem?_cons_zero, Option.some.injEq] at hi1
      subst hi1
      have e0 : aq.eval (.tmp 14) = .pointer (some ⟨p, 0, none⟩) := hd.val (j := 1) (by kernel_rfl) rfl rfl rfl
      exact wpOp_ranL hi rfl (v := .pointer (some ⟨p, 12, none⟩)) (w' := w') (by simp only [execOp, e0]; go_simp) ⟨rfl, Keeps.refl _ _⟩
    | 3, _, _, hi, hR =>
      have hi1 := hi
      simp only [List.getElem?_cons_succ, List.getElem?_cons_zero, Option.some.injEq] at hi1
      subst hi1
      have e0 : aq.eval (.tmp 15) = .pointer (some ⟨p, 12, none⟩) := hd.val (j := 2) (by kernel_rfl) rfl rfl rfl
      have c0 := blk_cell (blk_keep HB.out hk (fun h => h)) 12
      have c1 := blk_cell (blk_keep HB.out hk (fun h => h)) 13
      exact wpOp_ranL hi rfl (v := .agg #[.slice vfa vfn vfc, .int .i64 cn]) (w' := w') (by simp only [execOp, e0]; go_simp) ⟨rfl, Keeps.refl _ _⟩
    | 4, _, hnc, _, _ => cases hnc
    | 5, _, _, hi, hR =>
      have hi1 := hi
      simp only [List.getElem?_cons_succ, List.getElem?_cons_zero, Option.some.injEq] at hi1
      subst hi1
      have e0 : aq.eval (.tmp 0) = .pointer (some ⟨p, 0, none⟩) := (hd.out (by kernel_rfl)).trans rfl
      exact wpOp_ranL hi rfl (v := .pointer (some ⟨p, 0, none⟩)) (w' := w') (by simp only [execOp, e0]; rfl) ⟨rfl, Keeps.refl _ _⟩
    | 6, _, _, hi, hR =>
      have hi1 := hi
      simp only [List.getElem?_cons_succ, List.getElem?_cons_zero, Option.some.injEq] at hi1
      subst hi1
      have e0 : aq.eval (.tmp 18) = .pointer (some ⟨p, 0, none⟩) := hd.val (j := 5) (by kernel_rfl) rfl rfl rfl
      exact wpOp_ranL hi rfl (v := .pointer (some ⟨p, 0, none⟩)) (w' := w') (by simp only [execOp, e0]; rfl) ⟨rfl, Keeps.refl _ _⟩
    | 7, _, _, hi, hR =>
      have hi1 := hi
      simp only [List.getElem?_cons_succ, List.getElem?_cons_zero, Option.some.injEq] at hi1
      subst hi1
      have e0 : aq.eval (.tmp 19) = .pointer (some ⟨p, 0, none⟩) := hd.val (j := 6) (by kernel_rfl) rfl rfl rfl
      exact wpOp_ranL hi rfl (v := .pointer (some ⟨p, 14, none⟩)) (w' := w') (by simp only [execOp, e0]; go_simp) ⟨rfl, Keeps.refl _ _⟩
    | 8, _, _, hi, hR =>
      have hi1 := hi
      simp only [List.getElem?_cons_succ, List.getElem?_cons_zero, Option.some.injEq] at hi1
      subst hi1
      have e0 : aq.eval (.tmp 20) = .pointer (some ⟨p, 14, none⟩) := hd.val (j := 7) (by kernel_rfl) rfl rfl rfl
      have c0 := blk_cell (blk_keep HB.out hk (fun h => h)) 14
      exact wpOp_ranL hi rfl (v := .slice fa fn fc) (w' := w') (by simp only [execOp, e0]; go_simp) ⟨rfl, Keeps.refl _ _⟩
    | 9, _, _, hi, hR =>
      have hi1 := hi
      simp only [List.getElem?_cons_succ, List.getElem?_cons_zero, Option.some.injEq] at hi1
      subst hi1
      have e0 : aq.eval (.tmp 1) = .int .i64 tick := (hd.out (by kernel_rfl)).trans rfl
      exact wpOp_ranL hi rfl (v := .int .i64 tick) (w' := w') (by simp only [execOp, e0]; rfl) ⟨rfl, Keeps.refl _ _⟩
    | 10, _, _, hi, hR =>
      have hi1 := hi
      simp only [List.getElem?_cons_succ, List.getElem?_cons_zero, Option.some.injEq] at hi1
      subst hi1
      have e0 : aq.eval (.tmp 2) = .int .i64 fr := (hd.out (by kernel_rfl)).trans rfl
      exact wpOp_ranL hi rfl (v := .int .i64 fr) (w' := w') (by simp only [execOp, e0]; rfl) ⟨rfl, Keeps.refl _ _⟩
    | 11, _, _, hi, hR =>
      have hi1 := hi
      simp only [List.getElem?_cons_succ, List.getElem?_cons_zero, Option.some.injEq] at hi1
      subst hi1
      have e0 : aq.eval (.tmp 23) = .int .i64 fr := hd.val (j := 10) (by kernel_rfl) rfl rfl rfl
      exact wpOp_callL hi rfl (f := 30) (args := #[.int .i64 fr]) (by simp only [execOp_call_go, List.map_toArray, List.map_cons, List.map_nil, e0]; rfl) (((nodeOf_any fr w').mono (fun e w2 (h : e = .returned (.int .i64 (node fr)) ∧ w' = w2) => (⟨h.1, h.2 ▸ Keeps.refl _ _⟩ : e = .returned (.int .i64 (node fr)) ∧ Keeps (fun _ => False) w' w2))).mono (fun e w2 ⟨he, hk2⟩ => ⟨_, he, rfl, hk2⟩))
    | 12, _, _, hi, hR =>
      have hi1 := hi
      simp only [List.getElem?_cons_succ, List.getElem?_cons_zero, Option.some.injEq] at hi1
      subst hi1
      have e0 : aq.eval (.tmp 3) = .int .i64 tt := (hd.out (by kernel_rfl)).trans rfl
      exact wpOp_ranL hi rfl (v := .int .i64 tt) (w' := w') (by simp only [execOp, e0]; rfl) ⟨rfl, Keeps.refl _ _⟩
    | 13, _, _, hi, hR =>
      have hi1 := hi
      simp only [List.getElem?_cons_succ, List.getElem?_cons_zero, Option.some.injEq] at hi1
      subst hi1
      have e0 : aq.eval (.tmp 25) = .int .i64 tt := hd.val (j := 12) (by kernel_rfl) rfl rfl rfl
      exact wpOp_callL hi rfl (f := 30) (args := #[.int .i64 tt]) (by simp only [execOp_call_go, List.map_toArray, List.map_cons, List.map_nil, e0]; rfl) (((nodeOf_any tt w').mono (fun e w2 (h : e = .returned (.int .i64 (node tt)) ∧ w' = w2) => (⟨h.1, h.2 ▸ Keeps.refl _ _⟩ : e = .returned (.int .i64 (node tt)) ∧ Keeps (fun _ => False) w' w2))).mono (fun e w2 ⟨he, hk2⟩ => ⟨_, he, rfl, hk2⟩))
    | 14, _, _, hi, hR =>
      have hi1 := hi
      simp only [List.getElem?_cons_succ, List.getElem?_cons_zero, Option.some.injEq] at hi1
      subst hi1
      have e0 : aq.eval (.tmp 4) = .slice ad bn cd := (hd.out (by kernel_rfl)).trans rfl
      exact wpOp_ranL hi rfl (v := .slice ad bn cd) (w' := w') (by simp only [execOp, e0]; rfl) ⟨rfl, Keeps.refl _ _⟩
    | 15, _, hnc, _, _ => cases hnc
    | 16, _, _, hi, hR =>
      have hi1 := hi
      simp only [List.getElem?_cons_succ, List.getElem?_cons_zero, Option.some.injEq] at hi1
      subst hi1
      have e0 : aq.eval (.tmp 24) = .int .i64 (node fr) := hd.val (j := 11) (by kernel_rfl) rfl rfl rfl
      have e1 : aq.eval (.tmp 26) = .int .i64 (node tt) := hd.val (j := 13) (by kernel_rfl) rfl rfl rfl
      have e2 : aq.eval (.tmp 28) = r 15 := hd.val (j := 15) (by kernel_rfl) rfl rfl rfl
      obtain ⟨K5, hR5⟩ := hR 15 rfl
      obtain ⟨sa, sc, hsv, -⟩ := hR5
      rw [hsv] at e2
      exact wpOp_ranL hi rfl (v := .agg #[.int .i64 (node fr), .int .i64 (node tt), .slice sa sn sc]) (w' := w') (by simp only [execOp, List.map_toArray, List.map_cons, List.map_nil, e0, e1, e2]; go_simp) ⟨congrArg (aq.put (some 29)) (show (.agg #[.int .i64 (node fr), .int .i64 (node tt), .slice sa sn sc] : Value) = .agg #[.int .i64 (node fr), .int .i64 (node tt), r 15] from by rw [hsv]), Keeps.refl _ _⟩
    | 17, _, hnc, _, _ => cases hnc
    | 18, _, _, hi, hR =>
      have hi1 := hi
      simp only [List.getElem?_cons_succ, List.getElem?_cons_zero, Option.some.injEq] at hi1
      subst hi1
      have e0 : aq.eval (.tmp 30) = r 17 := hd.val (j := 17) (by kernel_rfl) rfl rfl rfl
      exact wpOp_ranL hi rfl (v := r 17) (w' := w') (by simp only [execOp, e0]; rfl) ⟨rfl, Keeps.refl _ _⟩
    | 19, _, _, hi, hR =>
      have hi1 := hi
      simp only [List.getElem?_cons_succ, List.getElem?_cons_zero, Option.some.injEq] at hi1
      subst hi1
      have e0 : aq.eval (.tmp 12) = r 17 := hd.val (j := 18) (by kernel_rfl) rfl rfl rfl
      obtain ⟨K7, hR7⟩ := hR 17 rfl
      obtain ⟨ra, rn, rc, hrv, -⟩ := hR7
      rw [hrv] at e0
      exact wpOp_ranL hi rfl (v := .agg #[.slice ra rn rc, .int .i64 R.2.1]) (w' := w') (by simp only [execOp, e0]; rfl) ⟨congrArg (aq.put (some 31)) (show (.agg #[.slice ra rn rc, .int .i64 R.2.1] : Value) = Mm.tupAt (r 17) 0 from by rw [hrv]; rfl), Keeps.refl _ _⟩
    | 20, _, _, hi, hR =>
      have hi1 := hi
      simp only [List.getElem?_cons_succ, List.getElem?_cons_zero, Option.some.injEq] at hi1
      subst hi1
      have e0 : aq.eval (.tmp 12) = r 17 := hd.val (j := 18) (by kernel_rfl) rfl rfl rfl
      obtain ⟨K7, hR7⟩ := hR 17 rfl
      obtain ⟨ra, rn, rc, hrv, -⟩ := hR7
      rw [hrv] at e0
      exact wpOp_ranL hi rfl (v := .bool R.2.2) (w' := w') (by simp only [execOp, e0]; rfl) ⟨congrArg (aq.put (some 32)) (show (.bool R.2.2 : Value) = Mm.tupAt (r 17) 1 from by rw [hrv]; rfl), Keeps.refl _ _⟩
    | 21, hv, _, _, _ => cases hv
    | 22, hv, _, _, _ => cases hv
    | 23, _, _, hi, hR =>
      have hi1 := hi
      simp only [List.getElem?_cons_succ, List.getElem?_cons_zero, Option.some.injEq] at hi1
      subst hi1
      have e0 : aq.eval (.tmp 32) = Mm.tupAt (r 17) 1 := hd.val (j := 20) (by kernel_rfl) rfl rfl rfl
      exact wpOp_ranL hi rfl (v := Mm.tupAt (r 17) 1) (w' := w') (by simp only [execOp, e0]; rfl) ⟨rfl, Keeps.refl _ _⟩
    | n + 24, _, _, hi, _ => simp at hi
  case HC =>
    intro c o hc hi aq w' r hk hd hR
    have h1 : c = 4 ∨ c = 15 ∨ c = 17 := by simpa [Mm.mkMC] using hc
    rcases h1 with rfl | rfl | rfl
    · have hi1 := hi
      simp only [List.getElem?_cons_succ, List.getElem?_cons_zero, Option.some.injEq] at hi1
      subst hi1
      exact wpOp_callL hi rfl (f := 57) (args := #[]) (by simp only [execOp_call_go, List.map_toArray, List.map_cons, List.map_nil]; rfl) ((HCW.out w').mono (fun e w2 ⟨x, he, hw, hk2⟩ => ⟨_, he, _, rfl, hk2, ⟨x, rfl, hw.mono (fun b _ h => .inr h)⟩⟩))
    · have hi1 := hi
      simp only [List.getElem?_cons_succ, List.getElem?_cons_zero, Option.some.injEq] at hi1
      subst hi1
      have e0 : aq.eval (.tmp 27) = .slice ad bn cd := hd.val (j := 14) (by kernel_rfl) rfl rfl rfl
      exact wpOp_callL hi rfl (f := 58) (args := #[.slice ad bn cd]) (by simp only [execOp_call_go, List.map_toArray, List.map_cons, List.map_nil, e0]; rfl) ((HCSL.out w' hk).mono (fun e w2 ⟨v, he, hk2, a, c, hv, hs⟩ => ⟨v, he, v, rfl, hk2, ⟨a, c, hv, hs.mono (fun b _ h => .inr h)⟩⟩))
    · have hi1 := hi
      simp only [List.getElem?_cons_succ, List.getElem?_cons_zero, Option.some.injEq] at hi1
      subst hi1
      have e0 : aq.eval (.tmp 16) = .agg #[.slice vfa vfn vfc, .int .i64 cn] := hd.val (j := 3) (by kernel_rfl) rfl rfl rfl
      have e1 : aq.eval (.tmp 17) = r 4 := hd.val (j := 4) (by kernel_rfl) rfl rfl rfl
      have e2 : aq.eval (.tmp 21) = .slice fa fn fc := hd.val (j := 8) (by kernel_rfl) rfl rfl rfl
      have e3 : aq.eval (.tmp 22) = .int .i64 tick := hd.val (j := 9) (by kernel_rfl) rfl rfl rfl
      have e4 : aq.eval (.tmp 29) = .agg #[.int .i64 (node fr), .int .i64 (node tt), r 15] := hd.val (j := 16) (by kernel_rfl) rfl rfl rfl
      obtain ⟨K4, hR4⟩ := hR 4 rfl (by decide)
      obtain ⟨K5, hR5⟩ := hR 15 rfl (by decide)
      obtain ⟨xw, hwv, hwin⟩ := hR4
      obtain ⟨sa, sc, hsv, hsl⟩ := hR5
      rw [hwv] at hwin
      rw [hsv] at hsl
      simp only [hwv, hsv] at e1 e4
      exact wpOp_callL hi rfl (f := 56) (args := #[.agg #[.slice vfa vfn vfc, .int .i64 cn], .slice (some xw) 2 2, .slice fa fn fc, .int .i64 tick, .agg #[.int .i64 (node fr), .int .i64 (node tt), .slice sa sn sc]]) (by simp only [execOp_call_go, List.map_toArray, List.map_cons, List.map_nil, e0, e1, e2, e3, e4]; rfl) ((HCS.out w' xw sa sc hk (hwin.mono (fun b hb _ => hb)) (hsl.mono (fun b hb _ => hb))).mono (fun e w2 ⟨v, he, hk2, a, n, c, hv, hn, hf⟩ => ⟨v, he, v, rfl, hk2, ⟨a, n, c, hv, hn, hf.mono (fun b _ h => ⟨.inr h, by have := hk.size; omega⟩)⟩⟩))
  case HE =>
    intro L aq w' gg r hL hT
    have em := act_mix (bs := [true, true, true, true, true, true, true, true, true, true, false, false, false, false, false, false, false, false, false, false, false, false, false, false, false, false, false, false, false, false, false, false, false, true, true, true, true]) hT.sz hT.df hT.fr rfl (by kernel_rfl)
    have kW := hT.kp
    have hR17 := hT.c 17 rfl (hL 17 (by decide))
    obtain ⟨eA21, zA21, cs21, -, bA21, sA21⟩ := hT.al 21 rfl (hL 21 (by decide)) _ 10 rfl rfl
    have sA21 := sA21 22 rfl (hL 22 (by decide)) rfl
    subst sA21
    change aq.tmps.getD 10 undef = _ at eA21
    change Blk w' (gg 21) (aggCells (Mm.tupAt (r 17) 0)) 48 at bA21
    generalize hrv17 : r 17 = rv17 at *
    clear hrv17
    obtain ⟨ra, rn, rc, rfl, hrn, hrf⟩ := hR17
    generalize gg 21 = g21 at *
    clear hT hL
    simp only [mix, eA21] at em
    clear eA21
    generalize aq.tmps.getD 13 undef = q13 at em
    generalize aq.tmps.getD 14 undef = q14 at em
    generalize aq.tmps.getD 15 undef = q15 at em
    generalize aq.tmps.getD 16 undef = q16 at em
    generalize aq.tmps.getD 17 undef = q17 at em
    generalize aq.tmps.getD 18 undef = q18 at em
    generalize aq.tmps.getD 19 undef = q19 at em
    generalize aq.tmps.getD 20 undef = q20 at em
    generalize aq.tmps.getD 21 undef = q21 at em
    generalize aq.tmps.getD 22 undef = q22 at em
    generalize aq.tmps.getD 23 undef = q23 at em
    generalize aq.tmps.getD 24 undef = q24 at em
    generalize aq.tmps.getD 25 undef = q25 at em
    generalize aq.tmps.getD 26 undef = q26 at em
    generalize aq.tmps.getD 27 undef = q27 at em
    generalize aq.tmps.getD 28 undef = q28 at em
    generalize aq.tmps.getD 29 undef = q29 at em
    generalize aq.tmps.getD 30 undef = q30 at em
    generalize aq.tmps.getD 12 undef = q12 at em
    generalize aq.tmps.getD 31 undef = q31 at em
    generalize aq.tmps.getD 32 undef = q32 at em
    generalize aq.tmps.getD 11 undef = q11 at em
    subst em
    simp only [Exit.then]
    change Blk w' g21 #[.slice ra rn rc, .int .i64 R.2.1] _ at bA21
    subst hrn
    have HRF := hid (hrf.mono (K' := fun b => w.heap.size ≤ b) (fun b _ h => h.2))
    clear hrf
    have zp := blk_lt HB.out
    have hne : g21 ≠ p := by omega
    have HBP := hid (blk_keep HB.out kW (fun h => h))
    have HBA := hid bA21
    have HKW := hid kW
    have zk := kW.size
    clear bA21 kW
    have a0 : w'.cell? ⟨g21, 0, none⟩ = some (.slice ra R.1.length rc) := blk_cell HBA.out 0
    have a1 : w'.cell? ⟨g21, 1, none⟩ = some (.int .i64 R.2.1) := blk_cell HBA.out 1
    have p0 : w'.cell? ⟨p, 12, none⟩ = some (.slice vfa vfn vfc) := blk_cell HBP.out 12
    have p1 : w'.cell? ⟨p, 13, none⟩ = some (.int .i64 cn) := blk_cell HBP.out 13
    have f0 : w'.frozen? ⟨p, 12, none⟩ = false := blk_free HBP.out 12
    have f1 : w'.frozen? ⟨p, 13, none⟩ = false := blk_free HBP.out 13
    go_wp2
    go_end0
    have KS : Keeps (fun b => b = p) w' ((w'.setCell ⟨p, 12, none⟩ (.slice ra R.1.length rc)).setCell ⟨p, 13, none⟩ (.int .i64 R.2.1)) := keq (keq (Keeps.refl _ _) _ _) _ _
    have HS := blk_set (blk_set HBP.out 12 (.slice ra R.1.length rc)) 13 (.int .i64 R.2.1)
    simp only [List.setIfInBounds_toArray, List.set_cons_zero, List.set_cons_succ] at HS
    exact ⟨rfl, ra, rc, HS, (HRF.out.mono (K' := fun b => w.heap.size ≤ b ∧ b ≠ p) (fun b _ h => ⟨h, by omega⟩)).keep KS (fun b _ h1 h2 => h1.2 h2) |>.mono (fun b _ h => h.1), (HKW.out.mono (fun _ _ h => h.elim)).trans KS⟩
end Go.Proofs.YtgfekgceeigdiaaDoor
