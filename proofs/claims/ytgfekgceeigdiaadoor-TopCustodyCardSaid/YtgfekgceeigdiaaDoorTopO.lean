/- TopCustody: arrive: an offering. -/
import Derived.Test.YtgfekgceeigdiaaDoorTopN
namespace Go.Proofs.YtgfekgceeigdiaaDoor
open Go.RowKit
attribute [local go_sem ↓] Go.wp_at_zero Go.wp_at_succ
set_option maxRecDepth 100000 in set_option maxHeartbeats 1000000 in
theorem arrive_off_no (p at_ : Nat) (tick : Int) (ad : Option Addr) (cd : Nat) (data y : List Nat) (w : World) (hN : Cr.Nib w) (hd : Sl (fun _ => True) w (.slice ad data.length cd) (u8s data)) (h8 : ∀ c ∈ data, c < 256) (hdl : data.length ≤ 100000) (hop : Cr.opened data = (y, 0)) (hk1 : (rdK y).2 ≠ 1) (hend : Wi.sEnd (rdD y).1 ≠ 0) :
    Calls Tryd.prog 31 #[.pointer (some ⟨p, 0, none⟩), .int .i64 tick, .int .i64 (at_ : Nat), .slice ad data.length cd] w fun e w' => e = .returned (.tuple #[]) ∧ Keeps (fun _ => False) w w' := by
  obtain ⟨kk, hkk⟩ : ∃ i, (rdK y).2 = i := ⟨_, rfl⟩
  obtain ⟨ii, hii⟩ : ∃ i, (rdI y).2 = i := ⟨_, rfl⟩
  obtain ⟨ff, hff⟩ : ∃ i, (rdF y).2 = i := ⟨_, rfl⟩
  obtain ⟨oo, hoo⟩ : ∃ i, (rdO y).2 = i := ⟨_, rfl⟩
  obtain ⟨aa, haa⟩ : ∃ i, (rdA y).2 = i := ⟨_, rfl⟩
  obtain ⟨ss, hss⟩ : ∃ i, (rdS y).2 = i := ⟨_, rfl⟩
  have HKK := hid hkk; have HII := hid hii; have HFF := hid hff; have HOO := hid hoo; have HAA := hid haa; have HSS := hid hss
  rw [hkk] at hk1
  have hk2 : (kk == 1) = false := by simp; exact hk1
  obtain ⟨ee, hee⟩ : ∃ i, Wi.sEnd (rdD y).1 = i := ⟨_, rfl⟩
  have HEE := hid hee
  rw [hee] at hend
  have he1 : (ee == 0) = false := by simp; exact hend
  have he2 : (ee != 0) = true := by simp; exact hend
  obtain ⟨uu, huu⟩ : ∃ u, IntKind.u32.wrap ((ss : Nat) : Int) = u := ⟨_, rfl⟩
  have huu2 : ((ss : Nat) : Int) % 4294967296 = uu := by rw [← huu]; simp [IntKind.wrap, IntKind.bits, IntKind.signed]
  clear hk1 hkk hii hff hoo haa hss hee hend
  have HN : Hd (NibF w) := hid hN
  have HD := hid (hd.mono (K' := fun b => b < w.heap.size) (fun b h _ => h)); have H8 := hid h8
  have HYL : Hd (y.length ≤ data.length ∧ ∀ c ∈ y, c < 256) := hid (by have h1 := opened_len data; have h2 := opened_lt h8; rw [hop] at h1 h2; exact ⟨h1, h2⟩)
  have HY : Hd ((Cr.opened data).1 = y) := hid (by rw [hop]); have HOE : Hd ((Cr.opened data).2 = 0) := hid (by rw [hop])
  clear hN hd h8 hop
  obtain ⟨dn, hdn⟩ : ∃ n, data.length = n := ⟨_, rfl⟩
  have HDN := hid hdn
  rw [hdn] at HD hdl ⊢
  clear hdn
  have hpos := HN.out.pos
  go_enter Tryd.func31, Tryd.ntmps31
  go_wp2_with fail
  have hcc := Cr.Open_any (fun b => b < w.heap.size) (.slice ad dn cd) data w HN.out HD.out H8.out (by rw [HDN.out]; omega)
  unfold Cr.OpenRet at hcc
  rw [HY.out, HOE.out] at hcc
  refine hcc.mono ?_
  clear hcc
  rintro e W1 ⟨ao, no, co, rfl, hno, hoo, hk⟩
  have SO : Hd (Sl (fun _ => True) W1 (.slice ao no co) (u8s y)) := hid ((row_sl hoo.row (by rw [hno, u8s_length])).mono (fun _ _ _ => trivial))
  clear hoo hno
  have HN' : Hd (NibF W1) := hid (HN.out.keep hk (fun _ _ _ h => h))
  have HD' : Hd (Sl (fun b => b < w.heap.size) W1 (.slice ad dn cd) (u8s data)) := hid (HD.out.keep hk (fun _ _ _ h => h))
  clear HN HD
  have HN := HN'
  clear HN'
  have HD := HD'
  clear HD'
  have HK : Hd (Keeps (fun _ => False) w W1) := hid hk
  have z_W1 := hk.size
  clear hk
  go_wp2_with fail
  refine (Wi.NewReader_any _ _ y _ SO.out (by have := HYL.out.1; have := HDN.out; omega) HYL.out.2).mono ?_
  rintro e W2 ⟨px, rfl, hx1, hx2, hk⟩
  have X1 : Hd (RdT W1.heap.size px (0, y) W2) := hid ⟨hx2, hx1⟩
  have lpx : px < W2.heap.size := hx1.lt
  clear hx1 SO
  have HN' : Hd (NibF W2) := hid (HN.out.keep hk (fun _ _ _ h => h))
  have HD' : Hd (Sl (fun b => b < w.heap.size) W2 (.slice ad dn cd) (u8s data)) := hid (HD.out.keep hk (fun _ _ _ h => h))
  clear HN HD
  have HN := HN'
  clear HN'
  have HD := HD'
  clear HD'
  have HK' : Hd (Keeps (fun _ => False) w W2) := hid (HK.out.trans hk)
  clear HK
  have HK := HK'
  clear HK'
  have z_W2 := hk.size
  clear hk
  go_wp2_with fail
  refine (Wi.RInt_any _ px (0, y) _ X1.out.2).mono ?_
  rintro e W3 ⟨rfl, hrd, hk⟩
  have X1n : Hd (RdT W1.heap.size px (rdK y).1 W3) := hid ⟨X1.out.1, hrd⟩
  clear hrd X1
  have HN' : Hd (NibF W3) := hid (HN.out.keep hk (fun b h1 h2 h3 => by omega))
  have HD' : Hd (Sl (fun b => b < w.heap.size) W3 (.slice ad dn cd) (u8s data)) := hid (HD.out.keep hk (fun b h1 h2 h3 => by omega))
  clear HN HD
  have HN := HN'
  clear HN'
  have HD := HD'
  clear HD'
  have HK' : Hd (Keeps (fun _ => False) w W3) := hid (HK.out.trans' hk (fun i hi h => by omega))
  clear HK
  have HK := HK'
  clear HK'
  have z_W3 := hk.size
  clear hk
  have X1 := X1n
  clear X1n
  rw [show (Wi.sI (0, y)).2 = kk from HKK.out]
  go_wp2_with fail
  refine (Wi.RInt_any _ px (rdK y).1 _ X1.out.2).mono ?_
  rintro e W4 ⟨rfl, hrd, hk⟩
  have X1n : Hd (RdT W1.heap.size px (rdI y).1 W4) := hid ⟨X1.out.1, hrd⟩
  clear hrd X1
  have HN' : Hd (NibF W4) := hid (HN.out.keep hk (fun b h1 h2 h3 => by omega))
  have HD' : Hd (Sl (fun b => b < w.heap.size) W4 (.slice ad dn cd) (u8s data)) := hid (HD.out.keep hk (fun b h1 h2 h3 => by omega))
  clear HN HD
  have HN := HN'
  clear HN'
  have HD := HD'
  clear HD'
  have HK' : Hd (Keeps (fun _ => False) w W4) := hid (HK.out.trans' hk (fun i hi h => by omega))
  clear HK
  have HK := HK'
  clear HK'
  have z_W4 := hk.size
  clear hk
  have X1 := X1n
  clear X1n
  rw [show (Wi.sI (rdK y).1).2 = ii from HII.out]
  go_upto_region 5 with fail
  generalize hW : World.alloc W4 _ = W5
  have KS : Hd (Keeps (fun _ => False) W4 W5) := hid (by rw [← hW]; exact (Keeps.alloc (Keeps.refl (fun _ => False) W4) _))
  have HN' : Hd (NibF W5) := hid (HN.out.keep KS.out (fun _ _ _ h => h))
  have HD' : Hd (Sl (fun b => b < w.heap.size) W5 (.slice ad dn cd) (u8s data)) := hid (HD.out.keep KS.out (fun _ _ _ h => h))
  have X1' : Hd (RdT W1.heap.size px (rdI y).1 W5) := hid (X1.out.keep KS.out (fun _ _ _ h => h))
  have BX : Hd (Blk W5 W4.heap.size #[(.int .i64 ii), (.int .i64 0), (.int .i64 0), (.int .i64 0), (.int .i64 0), (.int .i64 0), (.int .u32 0), (.slice none 0 0)] 59) := hid (by rw [← hW]; exact (blk_new _ _ _))
  clear HN HD X1
  have HN := HN'
  clear HN'
  have HD := HD'
  clear HD'
  have X1 := X1'
  clear X1'
  have HK' : Hd (Keeps (fun _ => False) w W5) := hid (HK.out.trans KS.out)
  clear HK
  have HK := HK'
  clear HK'
  have z_W5 : W4.heap.size + 1 ≤ W5.heap.size := by rw [← hW]; simp
  clear hW KS
  generalize hbX : W4.heap.size = bX at *
  clear hbX
  go_wp2_with fail
  refine (Wi.RInt_any _ px (rdI y).1 _ X1.out.2).mono ?_
  rintro e W6 ⟨rfl, hrd, hk⟩
  have X1n : Hd (RdT W1.heap.size px (rdF y).1 W6) := hid ⟨X1.out.1, hrd⟩
  clear hrd X1
  have HN' : Hd (NibF W6) := hid (HN.out.keep hk (fun b h1 h2 h3 => by omega))
  have HD' : Hd (Sl (fun b => b < w.heap.size) W6 (.slice ad dn cd) (u8s data)) := hid (HD.out.keep hk (fun b h1 h2 h3 => by omega))
  have BX' : Hd (Blk W6 bX #[(.int .i64 ii), (.int .i64 0), (.int .i64 0), (.int .i64 0), (.int .i64 0), (.int .i64 0), (.int .u32 0), (.slice none 0 0)] 59) := hid (blk_keep BX.out hk (fun h => by omega))
  clear HN HD BX
  have HN := HN'
  clear HN'
  have HD := HD'
  clear HD'
  have BX := BX'
  clear BX'
  have HK' : Hd (Keeps (fun _ => False) w W6) := hid (HK.out.trans' hk (fun i hi h => by omega))
  clear HK
  have HK := HK'
  clear HK'
  have z_W6 := hk.size
  clear hk
  have X1 := X1n
  clear X1n
  rw [show (Wi.sI (rdI y).1).2 = ff from HFF.out]
  have o_BX_3 : W6.cell? ⟨bX, 3, none⟩ = some ((.int .i64 0)) := blk_cell BX.out 3
  have f_BX_3 : W6.frozen? ⟨bX, 3, none⟩ = false := blk_free BX.out 3
  go_upto_region 10 with fail
  clear o_BX_3 f_BX_3
  generalize hW : World.setCell W6 _ _ = W7
  have KS : Hd (Keeps (fun b => b = bX) W6 W7) := hid (by rw [← hW]; exact (Keeps.setCell (S := fun b => b = bX) (p := ⟨bX, 3, none⟩) (Keeps.refl (fun b => b = bX) W6) (.inl rfl) _))
  have HN' : Hd (NibF W7) := hid (HN.out.keep KS.out (fun b _ h1 h2 => by omega))
  have HD' : Hd (Sl (fun b => b < w.heap.size) W7 (.slice ad dn cd) (u8s data)) := hid (HD.out.keep KS.out (fun b _ h1 h2 => by omega))
  have BX' : Hd (Blk W7 bX #[(.int .i64 ii), (.int .i64 0), (.int .i64 0), (.int .i64 ff), (.int .i64 0), (.int .i64 0), (.int .u32 0), (.slice none 0 0)] 59) := hid (by rw [← hW]; exact (blk_set BX.out 3 _))
  have X1' : Hd (RdT W1.heap.size px (rdF y).1 W7) := hid (X1.out.keep KS.out (fun b _ h1 h2 => by omega))
  clear HN HD BX X1
  have HN := HN'
  clear HN'
  have HD := HD'
  clear HD'
  have BX := BX'
  clear BX'
  have X1 := X1'
  clear X1'
  have HK' : Hd (Keeps (fun _ => False) w W7) := hid (HK.out.trans' KS.out (fun i hi h => by omega))
  clear HK
  have HK := HK'
  clear HK'
  have z_W7 : W6.heap.size + 0 ≤ W7.heap.size := by rw [← hW]; simp
  clear hW KS
  go_wp2_with fail
  refine (Wi.RInt_any _ px (rdF y).1 _ X1.out.2).mono ?_
  rintro e W8 ⟨rfl, hrd, hk⟩
  have X1n : Hd (RdT W1.heap.size px (rdO y).1 W8) := hid ⟨X1.out.1, hrd⟩
  clear hrd X1
  have HN' : Hd (NibF W8) := hid (HN.out.keep hk (fun b h1 h2 h3 => by omega))
  have HD' : Hd (Sl (fun b => b < w.heap.size) W8 (.slice ad dn cd) (u8s data)) := hid (HD.out.keep hk (fun b h1 h2 h3 => by omega))
  have BX' : Hd (Blk W8 bX #[(.int .i64 ii), (.int .i64 0), (.int .i64 0), (.int .i64 ff), (.int .i64 0), (.int .i64 0), (.int .u32 0), (.slice none 0 0)] 59) := hid (blk_keep BX.out hk (fun h => by omega))
  clear HN HD BX
  have HN := HN'
  clear HN'
  have HD := HD'
  clear HD'
  have BX := BX'
  clear BX'
  have HK' : Hd (Keeps (fun _ => False) w W8) := hid (HK.out.trans' hk (fun i hi h => by omega))
  clear HK
  have HK := HK'
  clear HK'
  have z_W8 := hk.size
  clear hk
  have X1 := X1n
  clear X1n
  rw [show (Wi.sI (rdF y).1).2 = oo from HOO.out]
  have o_BX_4 : W8.cell? ⟨bX, 4, none⟩ = some ((.int .i64 0)) := blk_cell BX.out 4
  have f_BX_4 : W8.frozen? ⟨bX, 4, none⟩ = false := blk_free BX.out 4
  go_upto_region 11 with fail
  clear o_BX_4 f_BX_4
  generalize hW : World.setCell W8 _ _ = W9
  have KS : Hd (Keeps (fun b => b = bX) W8 W9) := hid (by rw [← hW]; exact (Keeps.setCell (S := fun b => b = bX) (p := ⟨bX, 4, none⟩) (Keeps.refl (fun b => b = bX) W8) (.inl rfl) _))
  have HN' : Hd (NibF W9) := hid (HN.out.keep KS.out (fun b _ h1 h2 => by omega))
  have HD' : Hd (Sl (fun b => b < w.heap.size) W9 (.slice ad dn cd) (u8s data)) := hid (HD.out.keep KS.out (fun b _ h1 h2 => by omega))
  have BX' : Hd (Blk W9 bX #[(.int .i64 ii), (.int .i64 0), (.int .i64 0), (.int .i64 ff), (.int .i64 oo), (.int .i64 0), (.int .u32 0), (.slice none 0 0)] 59) := hid (by rw [← hW]; exact (blk_set BX.out 4 _))
  have X1' : Hd (RdT W1.heap.size px (rdO y).1 W9) := hid (X1.out.keep KS.out (fun b _ h1 h2 => by omega))
  clear HN HD BX X1
  have HN := HN'
  clear HN'
  have HD := HD'
  clear HD'
  have BX := BX'
  clear BX'
  have X1 := X1'
  clear X1'
  have HK' : Hd (Keeps (fun _ => False) w W9) := hid (HK.out.trans' KS.out (fun i hi h => by omega))
  clear HK
  have HK := HK'
  clear HK'
  have z_W9 : W8.heap.size + 0 ≤ W9.heap.size := by rw [← hW]; simp
  clear hW KS
  go_wp2_with fail
  refine (Wi.RInt_any _ px (rdO y).1 _ X1.out.2).mono ?_
  rintro e W10 ⟨rfl, hrd, hk⟩
  have X1n : Hd (RdT W1.heap.size px (rdA y).1 W10) := hid ⟨X1.out.1, hrd⟩
  clear hrd X1
  have HN' : Hd (NibF W10) := hid (HN.out.keep hk (fun b h1 h2 h3 => by omega))
  have HD' : Hd (Sl (fun b => b < w.heap.size) W10 (.slice ad dn cd) (u8s data)) := hid (HD.out.keep hk (fun b h1 h2 h3 => by omega))
  have BX' : Hd (Blk W10 bX #[(.int .i64 ii), (.int .i64 0), (.int .i64 0), (.int .i64 ff), (.int .i64 oo), (.int .i64 0), (.int .u32 0), (.slice none 0 0)] 59) := hid (blk_keep BX.out hk (fun h => by omega))
  clear HN HD BX
  have HN := HN'
  clear HN'
  have HD := HD'
  clear HD'
  have BX := BX'
  clear BX'
  have HK' : Hd (Keeps (fun _ => False) w W10) := hid (HK.out.trans' hk (fun i hi h => by omega))
  clear HK
  have HK := HK'
  clear HK'
  have z_W10 := hk.size
  clear hk
  have X1 := X1n
  clear X1n
  rw [show (Wi.sI (rdO y).1).2 = aa from HAA.out]
  have o_BX_5 : W10.cell? ⟨bX, 5, none⟩ = some ((.int .i64 0)) := blk_cell BX.out 5
  have f_BX_5 : W10.frozen? ⟨bX, 5, none⟩ = false := blk_free BX.out 5
  go_upto_region 12 with fail
  clear o_BX_5 f_BX_5
  generalize hW : World.setCell W10 _ _ = W11
  have KS : Hd (Keeps (fun b => b = bX) W10 W11) := hid (by rw [← hW]; exact (Keeps.setCell (S := fun b => b = bX) (p := ⟨bX, 5, none⟩) (Keeps.refl (fun b => b = bX) W10) (.inl rfl) _))
  have HN' : Hd (NibF W11) := hid (HN.out.keep KS.out (fun b _ h1 h2 => by omega))
  have HD' : Hd (Sl (fun b => b < w.heap.size) W11 (.slice ad dn cd) (u8s data)) := hid (HD.out.keep KS.out (fun b _ h1 h2 => by omega))
  have BX' : Hd (Blk W11 bX #[(.int .i64 ii), (.int .i64 0), (.int .i64 0), (.int .i64 ff), (.int .i64 oo), (.int .i64 aa), (.int .u32 0), (.slice none 0 0)] 59) := hid (by rw [← hW]; exact (blk_set BX.out 5 _))
  have X1' : Hd (RdT W1.heap.size px (rdA y).1 W11) := hid (X1.out.keep KS.out (fun b _ h1 h2 => by omega))
  clear HN HD BX X1
  have HN := HN'
  clear HN'
  have HD := HD'
  clear HD'
  have BX := BX'
  clear BX'
  have X1 := X1'
  clear X1'
  have HK' : Hd (Keeps (fun _ => False) w W11) := hid (HK.out.trans' KS.out (fun i hi h => by omega))
  clear HK
  have HK := HK'
  clear HK'
  have z_W11 : W10.heap.size + 0 ≤ W11.heap.size := by rw [← hW]; simp
  clear hW KS
  go_wp2_with fail
  refine (Wi.RUint_any _ px (rdA y).1 _ X1.out.2).mono ?_
  rintro e W12 ⟨rfl, hrd, hk⟩
  have X1n : Hd (RdT W1.heap.size px (rdS y).1 W12) := hid ⟨X1.out.1, hrd⟩
  clear hrd X1
  have HN' : Hd (NibF W12) := hid (HN.out.keep hk (fun b h1 h2 h3 => by omega))
  have HD' : Hd (Sl (fun b => b < w.heap.size) W12 (.slice ad dn cd) (u8s data)) := hid (HD.out.keep hk (fun b h1 h2 h3 => by omega))
  have BX' : Hd (Blk W12 bX #[(.int .i64 ii), (.int .i64 0), (.int .i64 0), (.int .i64 ff), (.int .i64 oo), (.int .i64 aa), (.int .u32 0), (.slice none 0 0)] 59) := hid (blk_keep BX.out hk (fun h => by omega))
  clear HN HD BX
  have HN := HN'
  clear HN'
  have HD := HD'
  clear HD'
  have BX := BX'
  clear BX'
  have HK' : Hd (Keeps (fun _ => False) w W12) := hid (HK.out.trans' hk (fun i hi h => by omega))
  clear HK
  have HK := HK'
  clear HK'
  have z_W12 := hk.size
  clear hk
  have X1 := X1n
  clear X1n
  rw [show (Wi.sU (rdA y).1).2 = ss from HSS.out]
  have o_BX_6 : W12.cell? ⟨bX, 6, none⟩ = some ((.int .u32 0)) := blk_cell BX.out 6
  have f_BX_6 : W12.frozen? ⟨bX, 6, none⟩ = false := blk_free BX.out 6
  go_upto_region 13 with fail
  clear o_BX_6 f_BX_6
  generalize hW : World.setCell W12 _ _ = W13
  have KS : Hd (Keeps (fun b => b = bX) W12 W13) := hid (by rw [← hW]; exact (Keeps.setCell (S := fun b => b = bX) (p := ⟨bX, 6, none⟩) (Keeps.refl (fun b => b = bX) W12) (.inl rfl) _))
  have HN' : Hd (NibF W13) := hid (HN.out.keep KS.out (fun b _ h1 h2 => by omega))
  have HD' : Hd (Sl (fun b => b < w.heap.size) W13 (.slice ad dn cd) (u8s data)) := hid (HD.out.keep KS.out (fun b _ h1 h2 => by omega))
  have BX' : Hd (Blk W13 bX #[(.int .i64 ii), (.int .i64 0), (.int .i64 0), (.int .i64 ff), (.int .i64 oo), (.int .i64 aa), (.int .u32 uu), (.slice none 0 0)] 59) := hid (by rw [← hW]; exact (blk_set BX.out 6 _))
  have X1' : Hd (RdT W1.heap.size px (rdS y).1 W13) := hid (X1.out.keep KS.out (fun b _ h1 h2 => by omega))
  clear HN HD BX X1
  have HN := HN'
  clear HN'
  have HD := HD'
  clear HD'
  have BX := BX'
  clear BX'
  have X1 := X1'
  clear X1'
  have HK' : Hd (Keeps (fun _ => False) w W13) := hid (HK.out.trans' KS.out (fun i hi h => by omega))
  clear HK
  have HK := HK'
  clear HK'
  have z_W13 : W12.heap.size + 0 ≤ W13.heap.size := by rw [← hW]; simp
  clear hW KS
  go_wp2_with fail
  refine (Wi.RBytes_any _ px 256 (rdS y).1 _ X1.out.2 (by omega)).mono ?_
  rintro e W14 ⟨ab9, nb9, cb9, rfl, hnb9, hob9, hrd, hk⟩
  have SBY := hid (show Sl (fun b => W13.heap.size ≤ b) W14 (.slice ab9 nb9 cb9) (u8s (rdD y).2) from row_sl hob9.row (by rw [hnb9, u8s_length]; rfl))
  have HNB9 : Hd (nb9 = (rdD y).2.length) := hid hnb9
  have X1n : Hd (RdT W1.heap.size px (rdD y).1 W14) := hid ⟨X1.out.1, hrd⟩
  clear hrd X1 hob9 hnb9
  have HN' : Hd (NibF W14) := hid (HN.out.keep hk (fun b h1 h2 h3 => by omega))
  have HD' : Hd (Sl (fun b => b < w.heap.size) W14 (.slice ad dn cd) (u8s data)) := hid (HD.out.keep hk (fun b h1 h2 h3 => by omega))
  have BX' : Hd (Blk W14 bX #[(.int .i64 ii), (.int .i64 0), (.int .i64 0), (.int .i64 ff), (.int .i64 oo), (.int .i64 aa), (.int .u32 uu), (.slice none 0 0)] 59) := hid (blk_keep BX.out hk (fun h => by omega))
  clear HN HD BX
  have HN := HN'
  clear HN'
  have HD := HD'
  clear HD'
  have BX := BX'
  clear BX'
  have HK' : Hd (Keeps (fun _ => False) w W14) := hid (HK.out.trans' hk (fun i hi h => by omega))
  clear HK
  have HK := HK'
  clear HK'
  have z_W14 := hk.size
  clear hk
  have X1 := X1n
  clear X1n
  have o_BX_7 : W14.cell? ⟨bX, 7, none⟩ = some ((.slice none 0 0)) := blk_cell BX.out 7
  have f_BX_7 : W14.frozen? ⟨bX, 7, none⟩ = false := blk_free BX.out 7
  go_upto_region 14 with fail
  clear o_BX_7 f_BX_7
  generalize hW : World.setCell W14 _ _ = W15
  have KS : Hd (Keeps (fun b => b = bX) W14 W15) := hid (by rw [← hW]; exact (Keeps.setCell (S := fun b => b = bX) (p := ⟨bX, 7, none⟩) (Keeps.refl (fun b => b = bX) W14) (.inl rfl) _))
  have HN' : Hd (NibF W15) := hid (HN.out.keep KS.out (fun b _ h1 h2 => by omega))
  have HD' : Hd (Sl (fun b => b < w.heap.size) W15 (.slice ad dn cd) (u8s data)) := hid (HD.out.keep KS.out (fun b _ h1 h2 => by omega))
  have BX' : Hd (Blk W15 bX #[(.int .i64 ii), (.int .i64 0), (.int .i64 0), (.int .i64 ff), (.int .i64 oo), (.int .i64 aa), (.int .u32 uu), (.slice ab9 nb9 cb9)] 59) := hid (by rw [← hW]; exact (blk_set BX.out 7 _))
  have X1' : Hd (RdT W1.heap.size px (rdD y).1 W15) := hid (X1.out.keep KS.out (fun b _ h1 h2 => by omega))
  have SBY' : Hd (Sl (fun b => W13.heap.size ≤ b) W15 (.slice ab9 nb9 cb9) (u8s (rdD y).2)) := hid (SBY.out.keep KS.out (fun b _ h1 h2 => by omega))
  clear HN HD BX X1 SBY
  have HN := HN'
  clear HN'
  have HD := HD'
  clear HD'
  have BX := BX'
  clear BX'
  have X1 := X1'
  clear X1'
  have SBY := SBY'
  clear SBY'
  have HK' : Hd (Keeps (fun _ => False) w W15) := hid (HK.out.trans' KS.out (fun i hi h => by omega))
  clear HK
  have HK := HK'
  clear HK'
  have z_W15 : W14.heap.size + 0 ≤ W15.heap.size := by rw [← hW]; simp
  clear hW KS
  go_wp2_with fail
  refine (Wi.REnd_any _ px _ _ X1.out.2).mono ?_
  rw [HEE.out]
  rintro e wx ⟨rfl, hdr⟩
  have hk := drawn_keeps (fun _ => False) hdr
  clear hdr
  obtain ⟨W16, rfl⟩ : ∃ V, V = wx := ⟨_, rfl⟩
  have HN' : Hd (NibF W16) := hid (HN.out.keep hk (fun _ _ _ h => h))
  have HD' : Hd (Sl (fun b => b < w.heap.size) W16 (.slice ad dn cd) (u8s data)) := hid (HD.out.keep hk (fun _ _ _ h => h))
  have BX' : Hd (Blk W16 bX #[(.int .i64 ii), (.int .i64 0), (.int .i64 0), (.int .i64 ff), (.int .i64 oo), (.int .i64 aa), (.int .u32 uu), (.slice ab9 nb9 cb9)] 59) := hid (blk_keep BX.out hk (fun h => h))
  have X1' : Hd (RdT W1.heap.size px (rdD y).1 W16) := hid (X1.out.keep hk (fun _ _ _ h => h))
  have SBY' : Hd (Sl (fun b => W13.heap.size ≤ b) W16 (.slice ab9 nb9 cb9) (u8s (rdD y).2)) := hid (SBY.out.keep hk (fun _ _ _ h => h))
  clear HN HD BX X1 SBY
  have HN := HN'
  clear HN'
  have HD := HD'
  clear HD'
  have BX := BX'
  clear BX'
  have X1 := X1'
  clear X1'
  have SBY := SBY'
  clear SBY'
  have HK' : Hd (Keeps (fun _ => False) w W16) := hid (HK.out.trans hk)
  clear HK
  have HK := HK'
  clear HK'
  have z_W16 := hk.size
  clear hk
  go_wp2
  refine bodyPost_ret (results_none rfl _ _ _) rfl ?_
  exact ⟨rfl, HK.out⟩
theorem off_reads {x : Bu} (h : x.ok) : (rdK (offL x)).2 = 0 ∧ (rdI (offL x)).2 = x.i ∧ (rdF (offL x)).2 = x.g ∧ (rdO (offL x)).2 = x.o ∧ (rdA (offL x)).2 = x.a ∧ (rdS (offL x)).2 = x.s ∧ (rdD (offL x)).2 = x.d ∧ Wi.sEnd (rdD (offL x)).1 = 0 := by
  have e0 : rdK (offL x) = ((0, Wi.encI x.i ++ (Wi.encI x.g ++ (Wi.encI x.o ++ (Wi.encI x.a ++ (Wi.enc x.s ++ (Wi.encB x.d)))))), 0) := Wi.sI_enc _ (by omega) (by omega)
  have e1 : rdI (offL x) = ((0, Wi.encI x.g ++ (Wi.encI x.o ++ (Wi.encI x.a ++ (Wi.enc x.s ++ (Wi.encB x.d))))), x.i) := by unfold rdI; rw [e0]; exact Wi.sI_enc _ h.i.1 h.i.2
  have e2 : rdF (offL x) = ((0, Wi.encI x.o ++ (Wi.encI x.a ++ (Wi.enc x.s ++ (Wi.encB x.d)))), x.g) := by unfold rdF; rw [e1]; exact Wi.sI_enc _ h.g.1 h.g.2
  have e3 : rdO (offL x) = ((0, Wi.encI x.a ++ (Wi.enc x.s ++ (Wi.encB x.d))), x.o) := by unfold rdO; rw [e2]; exact Wi.sI_enc _ h.o.1 h.o.2
  have e4 : rdA (offL x) = ((0, Wi.enc x.s ++ (Wi.encB x.d)), x.a) := by unfold rdA; rw [e3]; exact Wi.sI_enc _ h.a.1 h.a.2
  have e5 : rdS (offL x) = ((0, Wi.encB x.d), x.s) := by unfold rdS; rw [e4]; exact Wi.sU_enc _ (by have := h.s; omega)
  have e6 : rdD (offL x) = ((0, []), x.d) := by
    unfold rdD; rw [e5]
    unfold Wi.sB Wi.encB
    rw [Wi.sSize_enc x.d (by have := h.n; omega) (by have := h.n; omega)]
    simp
  rw [e0, e1, e2, e3, e4, e5, e6]
  exact ⟨rfl, rfl, rfl, rfl, rfl, rfl, rfl, by simp [Wi.sEnd]⟩
def AccR (K : Nat → Prop) (q : Int) (bs : List Bu) (ps sn : List Int) (v : Value) (w : World) : Prop := ∃ a0 c0 a1 c1 a2 c2, v = .tuple #[.agg #[.int .i64 q, .slice a0 bs.length c0, .slice a1 ps.length c1, .slice a2 sn.length c2], .bool true, .int .i64 0] ∧ Bus K w (.slice a0 bs.length c0) bs ∧ Sl K w (.slice a1 ps.length c1) (i64s ps) ∧ Sl K w (.slice a2 sn.length c2) (i64s sn)
theorem accR_k {q : Int} {bs : List Bu} {ps sn : List Int} {lo : Nat} : ∀ (_c : Nat) (K S : Nat → Prop) v w w', AccR (fun b => K b ∧ lo ≤ b) q bs ps sn v w → Keeps S w w' → (∀ b, b < w.heap.size → K b → ¬ S b) → AccR (fun b => K b ∧ lo ≤ b) q bs ps sn v w' := by
  intro _ K S v w w' h hk hd
  obtain ⟨a0, c0, a1, c1, a2, c2, h0, h4, h5, h6⟩ := h
  exact ⟨a0, c0, a1, c1, a2, c2, h0, h4.keep hk (fun b hb h => hd b hb h.1), h5.keep hk (fun b hb h => hd b hb h.1), h6.keep hk (fun b hb h => hd b hb h.1)⟩
theorem accR_m {q : Int} {bs : List Bu} {ps sn : List Int} {lo : Nat} : ∀ (_c : Nat) (K K' : Nat → Prop) v w, AccR (fun b => K b ∧ lo ≤ b) q bs ps sn v w → (∀ b, b < w.heap.size → K b → K' b) → AccR (fun b => K' b ∧ lo ≤ b) q bs ps sn v w := by
  intro _ K K' v w h hd
  obtain ⟨a0, c0, a1, c1, a2, c2, h0, h4, h5, h6⟩ := h
  exact ⟨a0, c0, a1, c1, a2, c2, h0, h4.mono (fun b hb h => ⟨hd b hb h.1, h.2⟩), h5.mono (fun b hb h => ⟨hd b hb h.1, h.2⟩), h6.mono (fun b hb h => ⟨hd b hb h.1, h.2⟩)⟩
set_option maxRecDepth 100000 in
set_option maxHeartbeats 4000000 in
theorem arrive_off (p at_ : Nat) (tick : Int) (ad : Option Addr) (cd : Nat) (data y : List Nat) (w : World) (hN : Cr.Nib w) (hd : Sl (fun _ => True) w (.slice ad data.length cd) (u8s data)) (h8 : ∀ c ∈ data, c < 256) (hdl : data.length ≤ 100000) (hop : Cr.opened data = (y, 0)) (ab ap aq : Option Addr) (cb cp cq : Nat) (bs : List Bu) (ps sn : List Int) (q : Int) (hc0 : w.cell? ⟨p, at_ * 4, none⟩ = some (.int .i64 q)) (hc1 : w.cell? ⟨p, at_ * 4 + 1, none⟩ = some (.slice ab bs.length cb)) (hc2 : w.cell? ⟨p, at_ * 4 + 2, none⟩ = some (.slice ap ps.length cp)) (hc3 : w.cell? ⟨p, at_ * 4 + 3, none⟩ = some (.slice aq sn.length cq))
    (hb : Bus (fun _ => True) w (.slice ab bs.length cb) bs) (hp : Sl (fun _ => True) w (.slice ap ps.length cp) (i64s ps)) (hs : Sl (fun _ => True) w (.slice aq sn.length cq) (i64s sn)) (l1 : bs.length ≤ 60) (l2 : ps.length ≤ 1000) (l3 : sn.length ≤ 1000) (hdb : ∀ x ∈ bs, x.d.length ≤ 256) (hat : at_ ≤ 2) (hfz : ∀ j, w.frozen? ⟨p, j, none⟩ = false) (x : Bu) (hxo : x.ok) (hyx : y = offL x) (ht1 : 1 ≤ at_) (bs2 : List Bu) (sn2 : List Int)
    (hacc : ∀ (X : World) (ad9 : Option Addr) (cd9 : Nat), Keeps (fun _ => False) w X → Sl (fun b => b < X.heap.size) X (.slice ad9 x.d.length cd9) (u8s x.d) → Calls Tryd.prog 52 #[.agg #[.int .i64 q, .slice ab bs.length cb, .slice ap ps.length cp, .slice aq sn.length cq], .agg #[.int .i64 x.i, .int .i64 0, .int .i64 0, .int .i64 x.g, .int .i64 x.o, .int .i64 x.a, .int .u32 (x.s : Int), .slice ad9 x.d.length cd9]] X fun e w' => ∃ v, e = .returned v ∧ Keeps (fun _ => False) X w' ∧ AccR (fun b => X.heap.size ≤ b) q bs2 ps sn2 v w')
    (Q : World → Prop) (hsend : ∀ (W1 W2 : World) (a : Option Addr) (c : Nat), SetP w p at_ q bs2 ps sn2 W1 → Keeps (fun _ => False) W1 W2 → Sl (fun _ => True) W2 (.slice a (conL x.i).length c) (u8s (conL x.i)) → Calls Tryd.prog 35 #[.pointer (some ⟨p, 0, none⟩), .int .i64 tick, .int .i64 (at_ : Nat), .int .i64 ((at_ : Int) - 1), .slice a (conL x.i).length c] W2 fun e w' => e = .returned (.tuple #[]) ∧ Q w') :
    Calls Tryd.prog 31 #[.pointer (some ⟨p, 0, none⟩), .int .i64 tick, .int .i64 (at_ : Nat), .slice ad data.length cd] w fun e w' => e = .returned (.tuple #[]) ∧ Q w' := by
  obtain ⟨r0, r1, r2, r3, r4, r5, r6, r7⟩ := off_reads hxo
  rw [← hyx] at r0 r1 r2 r3 r4 r5 r6 r7
  have HKK := hid r0; have HII := hid r1; have HFF := hid r2; have HOO := hid r3; have HAA := hid r4; have HSS := hid r5; have HDD := hid r6; have HEE := hid r7
  have huu : IntKind.u32.wrap ((x.s : Nat) : Int) = (x.s : Int) := by have := hxo.s; simp [IntKind.wrap, IntKind.bits, IntKind.signed]; omega
  have huu2 : ((x.s : Nat) : Int) % 4294967296 = (x.s : Int) := by have := hxo.s; omega
  have HXO := hid hxo; have HAC := hid hacc; have HSEND := hid hsend
  clear r0 r1 r2 r3 r4 r5 r6 r7 hyx hxo hacc hsend
  obtain ⟨xn, hxn⟩ : ∃ n, x.d.length = n := ⟨_, rfl⟩
  have HXN := hid hxn
  rw [hxn] at HAC
  obtain ⟨cl, hcl⟩ : ∃ n, (conL x.i).length = n := ⟨_, rfl⟩
  have HCLN := hid hcl
  rw [hcl] at HSEND
  obtain ⟨n2, hn2⟩ : ∃ n, bs2.length = n := ⟨_, rfl⟩
  obtain ⟨ns2, hns2⟩ : ∃ n, sn2.length = n := ⟨_, rfl⟩
  have HN2 := hid hn2; have HNS2 := hid hns2
  clear hxn hcl hn2 hns2
  have hw1 : IntKind.i64.wrap ((at_ : Int) - 1) = (at_ : Int) - 1 := IntWalk.i64_in _ (by omega)
  have hat1 : ((at_ : Int) == 0) = false := by simp; omega
  have HN : Hd (NibF w) := hid hN
  have HD := hid (hd.mono (K' := fun b => b < w.heap.size) (fun b h _ => h)); have H8 := hid h8
  have HYL : Hd (y.length ≤ data.length ∧ ∀ c ∈ y, c < 256) := hid (by have h1 := opened_len data; have h2 := opened_lt h8; rw [hop] at h1 h2; exact ⟨h1, h2⟩)
  have HY : Hd ((Cr.opened data).1 = y) := hid (by rw [hop]); have HOE : Hd ((Cr.opened data).2 = 0) := hid (by rw [hop])
  clear hN hd h8 hop
  obtain ⟨dn, hdn⟩ : ∃ n, data.length = n := ⟨_, rfl⟩
  have HDN := hid hdn
  rw [hdn] at HD hdl ⊢
  clear hdn
  have HB := hid (hb.mono (K' := fun b => b < w.heap.size) (fun b h _ => h)); have HP := hid (hp.mono (K' := fun b => b < w.heap.size) (fun b h _ => h)); have HS := hid (hs.mono (K' := fun b => b < w.heap.size) (fun b h _ => h)); have HDB := hid hdb
  have lp : p < w.heap.size := cell_lt hc0
  obtain ⟨n, hn⟩ : ∃ n, bs.length = n := ⟨_, rfl⟩
  obtain ⟨np, hnp⟩ : ∃ n, ps.length = n := ⟨_, rfl⟩
  obtain ⟨ns, hns⟩ : ∃ n, sn.length = n := ⟨_, rfl⟩
  have HNB := hid hn; have HNP := hid hnp; have HNS := hid hns
  rw [hn] at HB l1 hc1
  rw [hnp] at HP l2 hc2
  rw [hns] at HS l3 hc3
  have HPC : Hd (∀ X, Keeps (fun _ => False) w X → (X.cell? ⟨p, at_ * 4, none⟩ = some (.int .i64 q) ∧ X.cell? ⟨p, at_ * 4 + 1, none⟩ = some (.slice ab n cb) ∧ X.cell? ⟨p, at_ * 4 + 2, none⟩ = some (.slice ap np cp) ∧ X.cell? ⟨p, at_ * 4 + 3, none⟩ = some (.slice aq ns cq))) := hid (fun X hk => ⟨keep_cell hk (fun h => h) hc0, keep_cell hk (fun h => h) hc1, keep_cell hk (fun h => h) hc2, keep_cell hk (fun h => h) hc3⟩)
  have HFZ : Hd (∀ X, Keeps (fun _ => False) w X → ∀ j, X.frozen? ⟨p, j, none⟩ = false) := hid (fun X hk j => (hk.frozen (p := ⟨p, j, none⟩) lp (fun h => h)).trans (hfz j))
  clear hfz
  clear hb hp hs hdb hn hnp hns hc0 hc1 hc2 hc3
  rw [HNB.out, HNP.out, HNS.out] at HAC
  go_enter Tryd.func31, Tryd.ntmps31
  go_wp2_with fail
  have hcc := Cr.Open_any (fun b => b < w.heap.size) (.slice ad dn cd) data w HN.out HD.out H8.out (by rw [HDN.out]; omega)
  unfold Cr.OpenRet at hcc
  rw [HY.out, HOE.out] at hcc
  refine hcc.mono ?_
  clear hcc
  rintro e W1 ⟨ao, no, co, rfl, hno, hoo, hk⟩
  have SO : Hd (Sl (fun _ => True) W1 (.slice ao no co) (u8s y)) := hid ((row_sl hoo.row (by rw [hno, u8s_length])).mono (fun _ _ _ => trivial))
  clear hoo hno
  have HN' : Hd (NibF W1) := hid (HN.out.keep hk (fun _ _ _ h => h))
  have HD' : Hd (Sl (fun b => b < w.heap.size) W1 (.slice ad dn cd) (u8s data)) := hid (HD.out.keep hk (fun _ _ _ h => h))
  clear HN HD
  have HN := HN'
  clear HN'
  have HD := HD'
  clear HD'
  have HK : Hd (Keeps (fun _ => False) w W1) := hid hk
  have z_W1 := hk.size
  clear hk
  go_wp2_with fail
  refine (Wi.NewReader_any _ _ y _ SO.out (by have := HYL.out.1; have := HDN.out; omega) HYL.out.2).mono ?_
  rintro e W2 ⟨px, rfl, hx1, hx2, hk⟩
  have X1 : Hd (RdT W1.heap.size px (0, y) W2) := hid ⟨hx2, hx1⟩
  have lpx : px < W2.heap.size := hx1.lt
  clear hx1 SO
  have HN' : Hd (NibF W2) := hid (HN.out.keep hk (fun _ _ _ h => h))
  have HD' : Hd (Sl (fun b => b < w.heap.size) W2 (.slice ad dn cd) (u8s data)) := hid (HD.out.keep hk (fun _ _ _ h => h))
  clear HN HD
  have HN := HN'
  clear HN'
  have HD := HD'
  clear HD'
  have HK' : Hd (Keeps (fun _ => False) w W2) := hid (HK.out.trans hk)
  clear HK
  have HK := HK'
  clear HK'
  have z_W2 := hk.size
  clear hk
  go_wp2_with fail
  refine (Wi.RInt_any _ px (0, y) _ X1.out.2).mono ?_
  rintro e W3 ⟨rfl, hrd, hk⟩
  have X1n : Hd (RdT W1.heap.size px (rdK y).1 W3) := hid ⟨X1.out.1, hrd⟩
  clear hrd X1
  have HN' : Hd (NibF W3) := hid (HN.out.keep hk (fun b h1 h2 h3 => by omega))
  have HD' : Hd (Sl (fun b => b < w.heap.size) W3 (.slice ad dn cd) (u8s data)) := hid (HD.out.keep hk (fun b h1 h2 h3 => by omega))
  clear HN HD
  have HN := HN'
  clear HN'
  have HD := HD'
  clear HD'
  have HK' : Hd (Keeps (fun _ => False) w W3) := hid (HK.out.trans' hk (fun i hi h => by omega))
  clear HK
  have HK := HK'
  clear HK'
  have z_W3 := hk.size
  clear hk
  have X1 := X1n
  clear X1n
  rw [show (Wi.sI (0, y)).2 = 0 from HKK.out]
  go_wp2_with fail
  refine (Wi.RInt_any _ px (rdK y).1 _ X1.out.2).mono ?_
  rintro e W4 ⟨rfl, hrd, hk⟩
  have X1n : Hd (RdT W1.heap.size px (rdI y).1 W4) := hid ⟨X1.out.1, hrd⟩
  clear hrd X1
  have HN' : Hd (NibF W4) := hid (HN.out.keep hk (fun b h1 h2 h3 => by omega))
  have HD' : Hd (Sl (fun b => b < w.heap.size) W4 (.slice ad dn cd) (u8s data)) := hid (HD.out.keep hk (fun b h1 h2 h3 => by omega))
  clear HN HD
  have HN := HN'
  clear HN'
  have HD := HD'
  clear HD'
  have HK' : Hd (Keeps (fun _ => False) w W4) := hid (HK.out.trans' hk (fun i hi h => by omega))
  clear HK
  have HK := HK'
  clear HK'
  have z_W4 := hk.size
  clear hk
  have X1 := X1n
  clear X1n
  rw [show (Wi.sI (rdK y).1).2 = x.i from HII.out]
  go_upto_region 5 with fail
  generalize hW : World.alloc W4 _ = W5
  have KS : Hd (Keeps (fun _ => False) W4 W5) := hid (by rw [← hW]; exact (Keeps.alloc (Keeps.refl (fun _ => False) W4) _))
  have HN' : Hd (NibF W5) := hid (HN.out.keep KS.out (fun _ _ _ h => h))
  have HD' : Hd (Sl (fun b => b < w.heap.size) W5 (.slice ad dn cd) (u8s data)) := hid (HD.out.keep KS.out (fun _ _ _ h => h))
  have X1' : Hd (RdT W1.heap.size px (rdI y).1 W5) := hid (X1.out.keep KS.out (fun _ _ _ h => h))
  have BX : Hd (Blk W5 W4.heap.size #[(.int .i64 x.i), (.int .i64 0), (.int .i64 0), (.int .i64 0), (.int .i64 0), (.int .i64 0), (.int .u32 0), (.slice none 0 0)] 59) := hid (by rw [← hW]; exact (blk_new _ _ _))
  clear HN HD X1
  have HN := HN'
  clear HN'
  have HD := HD'
  clear HD'
  have X1 := X1'
  clear X1'
  have HK' : Hd (Keeps (fun _ => False) w W5) := hid (HK.out.trans KS.out)
  clear HK
  have HK := HK'
  clear HK'
  have z_W5 : W4.heap.size + 1 ≤ W5.heap.size := by rw [← hW]; simp
  clear hW KS
  generalize hbX : W4.heap.size = bX at *
  clear hbX
  go_wp2_with fail
  refine (Wi.RInt_any _ px (rdI y).1 _ X1.out.2).mono ?_
  rintro e W6 ⟨rfl, hrd, hk⟩
  have X1n : Hd (RdT W1.heap.size px (rdF y).1 W6) := hid ⟨X1.out.1, hrd⟩
  clear hrd X1
  have HN' : Hd (NibF W6) := hid (HN.out.keep hk (fun b h1 h2 h3 => by omega))
  have HD' : Hd (Sl (fun b => b < w.heap.size) W6 (.slice ad dn cd) (u8s data)) := hid (HD.out.keep hk (fun b h1 h2 h3 => by omega))
  have BX' : Hd (Blk W6 bX #[(.int .i64 x.i), (.int .i64 0), (.int .i64 0), (.int .i64 0), (.int .i64 0), (.int .i64 0), (.int .u32 0), (.slice none 0 0)] 59) := hid (blk_keep BX.out hk (fun h => by omega))
  clear HN HD BX
  have HN := HN'
  clear HN'
  have HD := HD'
  clear HD'
  have BX := BX'
  clear BX'
  have HK' : Hd (Keeps (fun _ => False) w W6) := hid (HK.out.trans' hk (fun i hi h => by omega))
  clear HK
  have HK := HK'
  clear HK'
  have z_W6 := hk.size
  clear hk
  have X1 := X1n
  clear X1n
  rw [show (Wi.sI (rdI y).1).2 = x.g from HFF.out]
  have o_BX_3 : W6.cell? ⟨bX, 3, none⟩ = some ((.int .i64 0)) := blk_cell BX.out 3
  have f_BX_3 : W6.frozen? ⟨bX, 3, none⟩ = false := blk_free BX.out 3
  go_upto_region 10 with fail
  clear o_BX_3 f_BX_3
  generalize hW : World.setCell W6 _ _ = W7
  have KS : Hd (Keeps (fun b => b = bX) W6 W7) := hid (by rw [← hW]; exact (Keeps.setCell (S := fun b => b = bX) (p := ⟨bX, 3, none⟩) (Keeps.refl (fun b => b = bX) W6) (.inl rfl) _))
  have HN' : Hd (NibF W7) := hid (HN.out.keep KS.out (fun b _ h1 h2 => by omega))
  have HD' : Hd (Sl (fun b => b < w.heap.size) W7 (.slice ad dn cd) (u8s data)) := hid (HD.out.keep KS.out (fun b _ h1 h2 => by omega))
  have BX' : Hd (Blk W7 bX #[(.int .i64 x.i), (.int .i64 0), (.int .i64 0), (.int .i64 x.g), (.int .i64 0), (.int .i64 0), (.int .u32 0), (.slice none 0 0)] 59) := hid (by rw [← hW]; exact (blk_set BX.out 3 _))
  have X1' : Hd (RdT W1.heap.size px (rdF y).1 W7) := hid (X1.out.keep KS.out (fun b _ h1 h2 => by omega))
  clear HN HD BX X1
  have HN := HN'
  clear HN'
  have HD := HD'
  clear HD'
  have BX := BX'
  clear BX'
  have X1 := X1'
  clear X1'
  have HK' : Hd (Keeps (fun _ => False) w W7) := hid (HK.out.trans' KS.out (fun i hi h => by omega))
  clear HK
  have HK := HK'
  clear HK'
  have z_W7 : W6.heap.size + 0 ≤ W7.heap.size := by rw [← hW]; simp
  clear hW KS
  go_wp2_with fail
  refine (Wi.RInt_any _ px (rdF y).1 _ X1.out.2).mono ?_
  rintro e W8 ⟨rfl, hrd, hk⟩
  have X1n : Hd (RdT W1.heap.size px (rdO y).1 W8) := hid ⟨X1.out.1, hrd⟩
  clear hrd X1
  have HN' : Hd (NibF W8) := hid (HN.out.keep hk (fun b h1 h2 h3 => by omega))
  have HD' : Hd (Sl (fun b => b < w.heap.size) W8 (.slice ad dn cd) (u8s data)) := hid (HD.out.keep hk (fun b h1 h2 h3 => by omega))
  have BX' : Hd (Blk W8 bX #[(.int .i64 x.i), (.int .i64 0), (.int .i64 0), (.int .i64 x.g), (.int .i64 0), (.int .i64 0), (.int .u32 0), (.slice none 0 0)] 59) := hid (blk_keep BX.out hk (fun h => by omega))
  clear HN HD BX
  have HN := HN'
  clear HN'
  have HD := HD'
  clear HD'
  have BX := BX'
  clear BX'
  have HK' : Hd (Keeps (fun _ => False) w W8) := hid (HK.out.trans' hk (fun i hi h => by omega))
  clear HK
  have HK := HK'
  clear HK'
  have z_W8 := hk.size
  clear hk
  have X1 := X1n
  clear X1n
  rw [show (Wi.sI (rdF y).1).2 = x.o from HOO.out]
  have o_BX_4 : W8.cell? ⟨bX, 4, none⟩ = some ((.int .i64 0)) := blk_cell BX.out 4
  have f_BX_4 : W8.frozen? ⟨bX, 4, none⟩ = false := blk_free BX.out 4
  go_upto_region 11 with fail
  clear o_BX_4 f_BX_4
  generalize hW : World.setCell W8 _ _ = W9
  have KS : Hd (Keeps (fun b => b = bX) W8 W9) := hid (by rw [← hW]; exact (Keeps.setCell (S := fun b => b = bX) (p := ⟨bX, 4, none⟩) (Keeps.refl (fun b => b = bX) W8) (.inl rfl) _))
  have HN' : Hd (NibF W9) := hid (HN.out.keep KS.out (fun b _ h1 h2 => by omega))
  have HD' : Hd (Sl (fun b => b < w.heap.size) W9 (.slice ad dn cd) (u8s data)) := hid (HD.out.keep KS.out (fun b _ h1 h2 => by omega))
  have BX' : Hd (Blk W9 bX #[(.int .i64 x.i), (.int .i64 0), (.int .i64 0), (.int .i64 x.g), (.int .i64 x.o), (.int .i64 0), (.int .u32 0), (.slice none 0 0)] 59) := hid (by rw [← hW]; exact (blk_set BX.out 4 _))
  have X1' : Hd (RdT W1.heap.size px (rdO y).1 W9) := hid (X1.out.keep KS.out (fun b _ h1 h2 => by omega))
  clear HN HD BX X1
  have HN := HN'
  clear HN'
  have HD := HD'
  clear HD'
  have BX := BX'
  clear BX'
  have X1 := X1'
  clear X1'
  have HK' : Hd (Keeps (fun _ => False) w W9) := hid (HK.out.trans' KS.out (fun i hi h => by omega))
  clear HK
  have HK := HK'
  clear HK'
  have z_W9 : W8.heap.size + 0 ≤ W9.heap.size := by rw [← hW]; simp
  clear hW KS
  go_wp2_with fail
  refine (Wi.RInt_any _ px (rdO y).1 _ X1.out.2).mono ?_
  rintro e W10 ⟨rfl, hrd, hk⟩
  have X1n : Hd (RdT W1.heap.size px (rdA y).1 W10) := hid ⟨X1.out.1, hrd⟩
  clear hrd X1
  have HN' : Hd (NibF W10) := hid (HN.out.keep hk (fun b h1 h2 h3 => by omega))
  have HD' : Hd (Sl (fun b => b < w.heap.size) W10 (.slice ad dn cd) (u8s data)) := hid (HD.out.keep hk (fun b h1 h2 h3 => by omega))
  have BX' : Hd (Blk W10 bX #[(.int .i64 x.i), (.int .i64 0), (.int .i64 0), (.int .i64 x.g), (.int .i64 x.o), (.int .i64 0), (.int .u32 0), (.slice none 0 0)] 59) := hid (blk_keep BX.out hk (fun h => by omega))
  clear HN HD BX
  have HN := HN'
  clear HN'
  have HD := HD'
  clear HD'
  have BX := BX'
  clear BX'
  have HK' : Hd (Keeps (fun _ => False) w W10) := hid (HK.out.trans' hk (fun i hi h => by omega))
  clear HK
  have HK := HK'
  clear HK'
  have z_W10 := hk.size
  clear hk
  have X1 := X1n
  clear X1n
  rw [show (Wi.sI (rdO y).1).2 = x.a from HAA.out]
  have o_BX_5 : W10.cell? ⟨bX, 5, none⟩ = some ((.int .i64 0)) := blk_cell BX.out 5
  have f_BX_5 : W10.frozen? ⟨bX, 5, none⟩ = false := blk_free BX.out 5
  go_upto_region 12 with fail
  clear o_BX_5 f_BX_5
  generalize hW : World.setCell W10 _ _ = W11
  have KS : Hd (Keeps (fun b => b = bX) W10 W11) := hid (by rw [← hW]; exact (Keeps.setCell (S := fun b => b = bX) (p := ⟨bX, 5, none⟩) (Keeps.refl (fun b => b = bX) W10) (.inl rfl) _))
  have HN' : Hd (NibF W11) := hid (HN.out.keep KS.out (fun b _ h1 h2 => by omega))
  have HD' : Hd (Sl (fun b => b < w.heap.size) W11 (.slice ad dn cd) (u8s data)) := hid (HD.out.keep KS.out (fun b _ h1 h2 => by omega))
  have BX' : Hd (Blk W11 bX #[(.int .i64 x.i), (.int .i64 0), (.int .i64 0), (.int .i64 x.g), (.int .i64 x.o), (.int .i64 x.a), (.int .u32 0), (.slice none 0 0)] 59) := hid (by rw [← hW]; exact (blk_set BX.out 5 _))
  have X1' : Hd (RdT W1.heap.size px (rdA y).1 W11) := hid (X1.out.keep KS.out (fun b _ h1 h2 => by omega))
  clear HN HD BX X1
  have HN := HN'
  clear HN'
  have HD := HD'
  clear HD'
  have BX := BX'
  clear BX'
  have X1 := X1'
  clear X1'
  have HK' : Hd (Keeps (fun _ => False) w W11) := hid (HK.out.trans' KS.out (fun i hi h => by omega))
  clear HK
  have HK := HK'
  clear HK'
  have z_W11 : W10.heap.size + 0 ≤ W11.heap.size := by rw [← hW]; simp
  clear hW KS
  go_wp2_with fail
  refine (Wi.RUint_any _ px (rdA y).1 _ X1.out.2).mono ?_
  rintro e W12 ⟨rfl, hrd, hk⟩
  have X1n : Hd (RdT W1.heap.size px (rdS y).1 W12) := hid ⟨X1.out.1, hrd⟩
  clear hrd X1
  have HN' : Hd (NibF W12) := hid (HN.out.keep hk (fun b h1 h2 h3 => by omega))
  have HD' : Hd (Sl (fun b => b < w.heap.size) W12 (.slice ad dn cd) (u8s data)) := hid (HD.out.keep hk (fun b h1 h2 h3 => by omega))
  have BX' : Hd (Blk W12 bX #[(.int .i64 x.i), (.int .i64 0), (.int .i64 0), (.int .i64 x.g), (.int .i64 x.o), (.int .i64 x.a), (.int .u32 0), (.slice none 0 0)] 59) := hid (blk_keep BX.out hk (fun h => by omega))
  clear HN HD BX
  have HN := HN'
  clear HN'
  have HD := HD'
  clear HD'
  have BX := BX'
  clear BX'
  have HK' : Hd (Keeps (fun _ => False) w W12) := hid (HK.out.trans' hk (fun i hi h => by omega))
  clear HK
  have HK := HK'
  clear HK'
  have z_W12 := hk.size
  clear hk
  have X1 := X1n
  clear X1n
  rw [show (Wi.sU (rdA y).1).2 = x.s from HSS.out]
  have o_BX_6 : W12.cell? ⟨bX, 6, none⟩ = some ((.int .u32 0)) := blk_cell BX.out 6
  have f_BX_6 : W12.frozen? ⟨bX, 6, none⟩ = false := blk_free BX.out 6
  go_upto_region 13 with fail
  clear o_BX_6 f_BX_6
  generalize hW : World.setCell W12 _ _ = W13
  have KS : Hd (Keeps (fun b => b = bX) W12 W13) := hid (by rw [← hW]; exact (Keeps.setCell (S := fun b => b = bX) (p := ⟨bX, 6, none⟩) (Keeps.refl (fun b => b = bX) W12) (.inl rfl) _))
  have HN' : Hd (NibF W13) := hid (HN.out.keep KS.out (fun b _ h1 h2 => by omega))
  have HD' : Hd (Sl (fun b => b < w.heap.size) W13 (.slice ad dn cd) (u8s data)) := hid (HD.out.keep KS.out (fun b _ h1 h2 => by omega))
  have BX' : Hd (Blk W13 bX #[(.int .i64 x.i), (.int .i64 0), (.int .i64 0), (.int .i64 x.g), (.int .i64 x.o), (.int .i64 x.a), (.int .u32 (x.s : Int)), (.slice none 0 0)] 59) := hid (by rw [← hW]; exact (blk_set BX.out 6 _))
  have X1' : Hd (RdT W1.heap.size px (rdS y).1 W13) := hid (X1.out.keep KS.out (fun b _ h1 h2 => by omega))
  clear HN HD BX X1
  have HN := HN'
  clear HN'
  have HD := HD'
  clear HD'
  have BX := BX'
  clear BX'
  have X1 := X1'
  clear X1'
  have HK' : Hd (Keeps (fun _ => False) w W13) := hid (HK.out.trans' KS.out (fun i hi h => by omega))
  clear HK
  have HK := HK'
  clear HK'
  have z_W13 : W12.heap.size + 0 ≤ W13.heap.size := by rw [← hW]; simp
  clear hW KS
  go_wp2_with fail
  refine (Wi.RBytes_any _ px 256 (rdS y).1 _ X1.out.2 (by omega)).mono ?_
  rintro e W14 ⟨ab9, nb9, cb9, rfl, hnb9, hob9, hrd, hk⟩
  have SBY := hid (show Sl (fun b => W13.heap.size ≤ b) W14 (.slice ab9 nb9 cb9) (u8s (rdD y).2) from row_sl hob9.row (by rw [hnb9, u8s_length]; rfl))
  have HNB9 : Hd (nb9 = (rdD y).2.length) := hid hnb9
  have X1n : Hd (RdT W1.heap.size px (rdD y).1 W14) := hid ⟨X1.out.1, hrd⟩
  clear hrd X1 hob9 hnb9
  have HN' : Hd (NibF W14) := hid (HN.out.keep hk (fun b h1 h2 h3 => by omega))
  have HD' : Hd (Sl (fun b => b < w.heap.size) W14 (.slice ad dn cd) (u8s data)) := hid (HD.out.keep hk (fun b h1 h2 h3 => by omega))
  have BX' : Hd (Blk W14 bX #[(.int .i64 x.i), (.int .i64 0), (.int .i64 0), (.int .i64 x.g), (.int .i64 x.o), (.int .i64 x.a), (.int .u32 (x.s : Int)), (.slice none 0 0)] 59) := hid (blk_keep BX.out hk (fun h => by omega))
  clear HN HD BX
  have HN := HN'
  clear HN'
  have HD := HD'
  clear HD'
  have BX := BX'
  clear BX'
  have HK' : Hd (Keeps (fun _ => False) w W14) := hid (HK.out.trans' hk (fun i hi h => by omega))
  clear HK
  have HK := HK'
  clear HK'
  have z_W14 := hk.size
  clear hk
  have X1 := X1n
  clear X1n
  have o_BX_7 : W14.cell? ⟨bX, 7, none⟩ = some ((.slice none 0 0)) := blk_cell BX.out 7
  have f_BX_7 : W14.frozen? ⟨bX, 7, none⟩ = false := blk_free BX.out 7
  go_upto_region 14 with fail
  clear o_BX_7 f_BX_7
  generalize hW : World.setCell W14 _ _ = W15
  have KS : Hd (Keeps (fun b => b = bX) W14 W15) := hid (by rw [← hW]; exact (Keeps.setCell (S := fun b => b = bX) (p := ⟨bX, 7, none⟩) (Keeps.refl (fun b => b = bX) W14) (.inl rfl) _))
  have HN' : Hd (NibF W15) := hid (HN.out.keep KS.out (fun b _ h1 h2 => by omega))
  have HD' : Hd (Sl (fun b => b < w.heap.size) W15 (.slice ad dn cd) (u8s data)) := hid (HD.out.keep KS.out (fun b _ h1 h2 => by omega))
  have BX' : Hd (Blk W15 bX #[(.int .i64 x.i), (.int .i64 0), (.int .i64 0), (.int .i64 x.g), (.int .i64 x.o), (.int .i64 x.a), (.int .u32 (x.s : Int)), (.slice ab9 nb9 cb9)] 59) := hid (by rw [← hW]; exact (blk_set BX.out 7 _))
  have X1' : Hd (RdT W1.heap.size px (rdD y).1 W15) := hid (X1.out.keep KS.out (fun b _ h1 h2 => by omega))
  have SBY' : Hd (Sl (fun b => W13.heap.size ≤ b) W15 (.slice ab9 nb9 cb9) (u8s (rdD y).2)) := hid (SBY.out.keep KS.out (fun b _ h1 h2 => by omega))
  clear HN HD BX X1 SBY
  have HN := HN'
  clear HN'
  have HD := HD'
  clear HD'
  have BX := BX'
  clear BX'
  have X1 := X1'
  clear X1'
  have SBY := SBY'
  clear SBY'
  have HK' : Hd (Keeps (fun _ => False) w W15) := hid (HK.out.trans' KS.out (fun i hi h => by omega))
  clear HK
  have HK := HK'
  clear HK'
  have z_W15 : W14.heap.size + 0 ≤ W15.heap.size := by rw [← hW]; simp
  clear hW KS
  have hnb : nb9 = xn := by rw [HNB9.out, HDD.out, HXN.out]
  subst hnb
  rw [HDD.out] at SBY
  clear HNB9
  go_wp2_with fail
  refine (Wi.REnd_any _ px _ _ X1.out.2).mono ?_
  rw [HEE.out]
  rintro e wx ⟨rfl, hdr⟩
  have hk := drawn_keeps (fun _ => False) hdr
  clear hdr
  obtain ⟨W16, rfl⟩ : ∃ V, V = wx := ⟨_, rfl⟩
  have HN' : Hd (NibF W16) := hid (HN.out.keep hk (fun _ _ _ h => h))
  have HD' : Hd (Sl (fun b => b < w.heap.size) W16 (.slice ad dn cd) (u8s data)) := hid (HD.out.keep hk (fun _ _ _ h => h))
  have BX' : Hd (Blk W16 bX #[(.int .i64 x.i), (.int .i64 0), (.int .i64 0), (.int .i64 x.g), (.int .i64 x.o), (.int .i64 x.a), (.int .u32 (x.s : Int)), (.slice ab9 nb9 cb9)] 59) := hid (blk_keep BX.out hk (fun h => h))
  have X1' : Hd (RdT W1.heap.size px (rdD y).1 W16) := hid (X1.out.keep hk (fun _ _ _ h => h))
  have SBY' : Hd (Sl (fun b => W13.heap.size ≤ b) W16 (.slice ab9 nb9 cb9) (u8s x.d)) := hid (SBY.out.keep hk (fun _ _ _ h => h))
  clear HN HD BX X1 SBY
  have HN := HN'
  clear HN'
  have HD := HD'
  clear HD'
  have BX := BX'
  clear BX'
  have X1 := X1'
  clear X1'
  have SBY := SBY'
  clear SBY'
  have HK' : Hd (Keeps (fun _ => False) w W16) := hid (HK.out.trans hk)
  clear HK
  have HK := HK'
  clear HK'
  have z_W16 := hk.size
  clear hk
  go_upto_region 15 with fail
  have HPX : Hd (∀ X, Keeps (fun _ => False) W16 X → (X.cell? ⟨p, at_ * 4, none⟩ = some (.int .i64 q) ∧ X.cell? ⟨p, at_ * 4 + 1, none⟩ = some (.slice ab n cb) ∧ X.cell? ⟨p, at_ * 4 + 2, none⟩ = some (.slice ap np cp) ∧ X.cell? ⟨p, at_ * 4 + 3, none⟩ = some (.slice aq ns cq))) := hid (fun X hk => HPC.out X (HK.out.trans hk))
  refine Mm.wp_many (C := Mm.mkMC [7] [(7, [7]), (8, [7]), (9, [7]), (10, [7]), (11, [7]), (13, [7]), (14, [7]), (15, [7])] [(12, 44, #[(.int .i64 0), (.slice none 0 0), (.slice none 0 0), (.slice none 0 0)])] [(13, 12, 9)] [(fun r => .pointer (some ⟨p, 0, none⟩)), (fun r => .int .i64 (at_ : Nat)), (fun r => .pointer (some ⟨p, 0, none⟩)), (fun r => .pointer (some ⟨p, 0, none⟩)), (fun r => .pointer (some ⟨p, at_ * 4, none⟩)), (fun r => .agg #[.int .i64 q, .slice ab n cb, .slice ap np cp, .slice aq ns cq]), (fun r => .agg #[.int .i64 x.i, .int .i64 0, .int .i64 0, .int .i64 x.g, .int .i64 x.o, .int .i64 x.a, .int .u32 (x.s : Int), .slice ab9 nb9 cb9]), (fun r => r 7), (fun r => r 7), (fun r => Mm.tupAt (r 7) 0), (fun r => Mm.tupAt (r 7) 1), (fun r => Mm.tupAt (r 7) 2), (fun _ => undef), (fun _ => undef), (fun r => Mm.tupAt (r 7) 1), (fun r => Mm.tupAt (r 7) 2)] (fun _ r => aggCells (Mm.tupAt (r 7) 0)) ((fun (_ : Nat) (K : Nat → Prop) (v : Value) (wx : World) => AccR (fun b => K b ∧ w.heap.size ≤ b) q bs2 ps sn2 v wx))) (by kernel_rfl) ?H ?HV ?HC ?HE
  case H =>
    refine { back := by kernel_rfl, dst := uniqB_spec (by kernel_rfl), szd := underB_spec (by kernel_rfl), val := Mm.valB_spec3 (f := Mm.mkV [(12, 44, #[(.int .i64 0), (.slice none 0 0), (.slice none 0 0), (.slice none 0 0)])] [(13, 12, 9)]) (by kernel_rfl), alo := ?_, sto := ?_, stc := ?_, all := Mm.allB3_spec (f := Mm.mkV [(12, 44, #[(.int .i64 0), (.slice none 0 0), (.slice none 0 0), (.slice none 0 0)])] [(13, 12, 9)]) (g := Mm.mkA [(12, 44, #[(.int .i64 0), (.slice none 0 0), (.slice none 0 0), (.slice none 0 0)])]) (h := Mm.mkS [(13, 12, 9)]) (by kernel_rfl), nva := ?_, nvs := ?_, one := ?_, civ := ?_, nd := ?_, ndc := ?_, pc := Mm.pcB_spec (by kernel_rfl), dd := Mm.ddB_spec (by kernel_rfl), sem := oneSem 44 #[.int .i64 0, .slice none 0 0, .slice none 0 0, .slice none 0 0] _ _ 12 13 9 7 _ _ (fun v => Mm.tupAt v 0) rfl rfl (fun w => by go_simp) accR_k accR_m (fun K r w h b cs hb hz => by obtain ⟨a0, c0, a1, c1, a2, c2, rfl, -⟩ := h; obtain ⟨w', e1, e2, e3⟩ := st_store hb hz q a0 a1 a2 bs2.length ps.length sn2.length c0 c1 c2; exact ⟨w', e1, e2, e3, rfl⟩) }
    · intro j o h0 ha
      have h1 : 12 = j := by simpa [Mm.mkMC] using ha
      subst h1
      all_goals
        have h2 := h0
        simp only [List.getElem?_cons_succ, List.getElem?_cons_zero, Option.some.injEq] at h2
        subst h2
        exact ⟨⟨_, rfl⟩, rfl, rfl⟩
    · intro s o h0 ha
      have h1 : 13 = s := by simpa [Mm.mkMC] using ha
      subst h1
      all_goals
        have h2 := h0
        simp only [List.getElem?_cons_succ, List.getElem?_cons_zero, Option.some.injEq] at h2
        subst h2
        exact ⟨_, _, _, _, rfl, rfl, rfl, rfl, rfl, rfl, rfl, waitsB_spec (by kernel_rfl), waitsB_spec (by kernel_rfl)⟩
    · intro s ha
      have h1 : 13 = s := by simpa [Mm.mkMC] using ha
      subst h1
      all_goals exact ⟨rfl, rfl⟩
    · intro s ha
      have h1 : 12 = s := by simpa [Mm.mkMC] using ha
      subst h1
      all_goals exact ⟨rfl, rfl, fun c => by simp [Mm.mkMC]⟩
    · intro s ha
      have h1 : 13 = s := by simpa [Mm.mkMC] using ha
      subst h1
      all_goals exact ⟨rfl, rfl⟩
    · intro s t ha hb hst
      have h1 : 13 = s := by simpa [Mm.mkMC] using ha
      subst h1
      all_goals (have h2 : 13 = t := by simpa [Mm.mkMC] using hb)
      exact h2
    · intro c hc
      have h1 : c = 7 := by simpa [Mm.mkMC] using hc
      subst h1
      all_goals exact ⟨rfl, rfl, fun _ => rfl⟩
    · intro i r r' hv hD
      match i, hD with
      | 0, _ => rfl
      | 1, _ => rfl
      | 2, _ => rfl
      | 3, _ => rfl
      | 4, _ => rfl
      | 5, _ => rfl
      | 6, _ => rfl
      | 7, hD => exact (show (r 7 : Value) = r' 7 by rw [hD 7 rfl])
      | 8, hD => exact (show (r 7 : Value) = r' 7 by rw [hD 7 rfl])
      | 9, hD => exact (show (Mm.tupAt (r 7) 0 : Value) = Mm.tupAt (r' 7) 0 by rw [hD 7 rfl])
      | 10, hD => exact (show (Mm.tupAt (r 7) 1 : Value) = Mm.tupAt (r' 7) 1 by rw [hD 7 rfl])
      | 11, hD => exact (show (Mm.tupAt (r 7) 2 : Value) = Mm.tupAt (r' 7) 2 by rw [hD 7 rfl])
      | 12, _ => rfl
      | 13, _ => rfl
      | 14, hD => exact (show (Mm.tupAt (r 7) 1 : Value) = Mm.tupAt (r' 7) 1 by rw [hD 7 rfl])
      | 15, hD => exact (show (Mm.tupAt (r 7) 2 : Value) = Mm.tupAt (r' 7) 2 by rw [hD 7 rfl])
      | n + 16, _ => rfl
    · intro s r r' ha hD
      have h1 : 13 = s := by simpa [Mm.mkMC] using ha
      subst h1
      · show ((fun _ r => aggCells (Mm.tupAt (r 7) 0)) : Nat → (Nat → Value) → Array Value) 13 r = ((fun _ r => aggCells (Mm.tupAt (r 7) 0)) : Nat → (Nat → Value) → Array Value) 13 r'
        simp only [hD 7 rfl]
  case HV =>
    intro iq o hv hnc hi actq w' r hk hd hR
    match iq, hv, hnc, hi, hR with
    | 0, _, _, hi, hR =>
      have hi1 := hi
      simp only [List.getElem?_cons_succ, List.getElem?_cons_zero, Option.some.injEq] at hi1
      subst hi1
      have e0 : actq.eval (.tmp 0) = .pointer (some ⟨p, 0, none⟩) := (hd.out (by kernel_rfl)).trans rfl
      exact wpOp_ranL hi rfl (v := .pointer (some ⟨p, 0, none⟩)) (w' := w') (by simp only [execOp, e0]; rfl) ⟨rfl, Keeps.refl _ _⟩
    | 1, _, _, hi, hR =>
      have hi1 := hi
      simp only [List.getElem?_cons_succ, List.getElem?_cons_zero, Option.some.injEq] at hi1
      subst hi1
      have e0 : actq.eval (.tmp 2) = .int .i64 (at_ : Nat) := (hd.out (by kernel_rfl)).trans rfl
      exact wpOp_ranL hi rfl (v := .int .i64 (at_ : Nat)) (w' := w') (by simp only [execOp, e0]; rfl) ⟨rfl, Keeps.refl _ _⟩
    | 2, _, _, hi, hR =>
      have hi1 := hi
      simp only [List.getElem?_cons_succ, List.getElem?_cons_zero, Option.some.injEq] at hi1
      subst hi1
      have e0 : actq.eval (.tmp 92) = .pointer (some ⟨p, 0, none⟩) := hd.val (j := 0) (by kernel_rfl) rfl rfl rfl
      exact wpOp_ranL hi rfl (v := .pointer (some ⟨p, 0, none⟩)) (w' := w') (by simp only [execOp, e0]; rfl) ⟨rfl, Keeps.refl _ _⟩
    | 3, _, _, hi, hR =>
      have hi1 := hi
      simp only [List.getElem?_cons_succ, List.getElem?_cons_zero, Option.some.injEq] at hi1
      subst hi1
      have e0 : actq.eval (.tmp 94) = .pointer (some ⟨p, 0, none⟩) := hd.val (j := 2) (by kernel_rfl) rfl rfl rfl
      exact wpOp_ranL hi rfl (v := .pointer (some ⟨p, 0, none⟩)) (w' := w') (by simp only [execOp, e0]; go_simp) ⟨rfl, Keeps.refl _ _⟩
    | 4, _, _, hi, hR =>
      have hi1 := hi
      simp only [List.getElem?_cons_succ, List.getElem?_cons_zero, Option.some.injEq] at hi1
      subst hi1
      have e0 : actq.eval (.tmp 95) = .pointer (some ⟨p, 0, none⟩) := hd.val (j := 3) (by kernel_rfl) rfl rfl rfl
      have e1 : actq.eval (.tmp 93) = .int .i64 (at_ : Nat) := hd.val (j := 1) (by kernel_rfl) rfl rfl rfl
      have hat0 : (0 : Int) ≤ (at_ : Int) := by omega
      have hat3 : (at_ : Int) < 3 := by omega
      exact wpOp_ranL hi rfl (v := .pointer (some ⟨p, at_ * 4, none⟩)) (w' := w') (by simp only [execOp, e0, e1]; go_simp) ⟨rfl, Keeps.refl _ _⟩
    | 5, _, _, hi, hR =>
      have hi1 := hi
      simp only [List.getElem?_cons_succ, List.getElem?_cons_zero, Option.some.injEq] at hi1
      subst hi1
      have e0 : actq.eval (.tmp 96) = .pointer (some ⟨p, at_ * 4, none⟩) := hd.val (j := 4) (by kernel_rfl) rfl rfl rfl
      have c0 := (HPX.out _ hk).1
      have c1 := (HPX.out _ hk).2.1
      have c2 := (HPX.out _ hk).2.2.1
      have c3 := (HPX.out _ hk).2.2.2
      exact wpOp_ranL hi rfl (v := .agg #[.int .i64 q, .slice ab n cb, .slice ap np cp, .slice aq ns cq]) (w' := w') (by simp only [execOp, e0]; go_simp) ⟨rfl, Keeps.refl _ _⟩
    | 6, _, _, hi, hR =>
      have hi1 := hi
      simp only [List.getElem?_cons_succ, List.getElem?_cons_zero, Option.some.injEq] at hi1
      subst hi1
      have e0 : actq.eval (.tmp 12) = .pointer (some ⟨bX, 0, none⟩) := (hd.out (by kernel_rfl)).trans rfl
      have c0 := blk_cell (blk_keep BX.out hk (fun h => h)) 0
      have c1 := blk_cell (blk_keep BX.out hk (fun h => h)) 1
      have c2 := blk_cell (blk_keep BX.out hk (fun h => h)) 2
      have c3 := blk_cell (blk_keep BX.out hk (fun h => h)) 3
      have c4 := blk_cell (blk_keep BX.out hk (fun h => h)) 4
      have c5 := blk_cell (blk_keep BX.out hk (fun h => h)) 5
      have c6 := blk_cell (blk_keep BX.out hk (fun h => h)) 6
      have c7 := blk_cell (blk_keep BX.out hk (fun h => h)) 7
      exact wpOp_ranL hi rfl (v := .agg #[.int .i64 x.i, .int .i64 0, .int .i64 0, .int .i64 x.g, .int .i64 x.o, .int .i64 x.a, .int .u32 (x.s : Int), .slice ab9 nb9 cb9]) (w' := w') (by simp only [execOp, e0]; go_simp) ⟨rfl, Keeps.refl _ _⟩
    | 7, _, hnc, _, _ => cases hnc
    | 8, _, _, hi, hR =>
      have hi1 := hi
      simp only [List.getElem?_cons_succ, List.getElem?_cons_zero, Option.some.injEq] at hi1
      subst hi1
      have e0 : actq.eval (.tmp 99) = r 7 := hd.val (j := 7) (by kernel_rfl) rfl rfl rfl
      exact wpOp_ranL hi rfl (v := r 7) (w' := w') (by simp only [execOp, e0]; rfl) ⟨rfl, Keeps.refl _ _⟩
    | 9, _, _, hi, hR =>
      have hi1 := hi
      simp only [List.getElem?_cons_succ, List.getElem?_cons_zero, Option.some.injEq] at hi1
      subst hi1
      have e0 : actq.eval (.tmp 91) = r 7 := hd.val (j := 8) (by kernel_rfl) rfl rfl rfl
      obtain ⟨K7, hR7⟩ := hR 7 rfl
      obtain ⟨a0, c0, a1, c1, a2, c2, hrv, -⟩ := hR7
      rw [HN2.out, HNP.out, HNS2.out] at hrv
      rw [hrv] at e0
      exact wpOp_ranL hi rfl (v := .agg #[.int .i64 q, .slice a0 n2 c0, .slice a1 np c1, .slice a2 ns2 c2]) (w' := w') (by simp only [execOp, e0]; rfl) ⟨congrArg (actq.put (some 100)) (show (.agg #[.int .i64 q, .slice a0 n2 c0, .slice a1 np c1, .slice a2 ns2 c2] : Value) = Mm.tupAt (r 7) 0 from by rw [hrv]; rfl), Keeps.refl _ _⟩
    | 10, _, _, hi, hR =>
      have hi1 := hi
      simp only [List.getElem?_cons_succ, List.getElem?_cons_zero, Option.some.injEq] at hi1
      subst hi1
      have e0 : actq.eval (.tmp 91) = r 7 := hd.val (j := 8) (by kernel_rfl) rfl rfl rfl
      obtain ⟨K7, hR7⟩ := hR 7 rfl
      obtain ⟨a0, c0, a1, c1, a2, c2, hrv, -⟩ := hR7
      rw [HN2.out, HNP.out, HNS2.out] at hrv
      rw [hrv] at e0
      exact wpOp_ranL hi rfl (v := .bool true) (w' := w') (by simp only [execOp, e0]; rfl) ⟨congrArg (actq.put (some 101)) (show (.bool true : Value) = Mm.tupAt (r 7) 1 from by rw [hrv]; rfl), Keeps.refl _ _⟩
    | 11, _, _, hi, hR =>
      have hi1 := hi
      simp only [List.getElem?_cons_succ, List.getElem?_cons_zero, Option.some.injEq] at hi1
      subst hi1
      have e0 : actq.eval (.tmp 91) = r 7 := hd.val (j := 8) (by kernel_rfl) rfl rfl rfl
      obtain ⟨K7, hR7⟩ := hR 7 rfl
      obtain ⟨a0, c0, a1, c1, a2, c2, hrv, -⟩ := hR7
      rw [HN2.out, HNP.out, HNS2.out] at hrv
      rw [hrv] at e0
      exact wpOp_ranL hi rfl (v := .int .i64 0) (w' := w') (by simp only [execOp, e0]; rfl) ⟨congrArg (actq.put (some 102)) (show (.int .i64 0 : Value) = Mm.tupAt (r 7) 2 from by rw [hrv]; rfl), Keeps.refl _ _⟩
    | 12, hv, _, _, _ => cases hv
    | 13, hv, _, _, _ => cases hv
    | 14, _, _, hi, hR =>
      have hi1 := hi
      simp only [List.getElem?_cons_succ, List.getElem?_cons_zero, Option.some.injEq] at hi1
      subst hi1
      have e0 : actq.eval (.tmp 101) = Mm.tupAt (r 7) 1 := hd.val (j := 10) (by kernel_rfl) rfl rfl rfl
      exact wpOp_ranL hi rfl (v := Mm.tupAt (r 7) 1) (w' := w') (by simp only [execOp, e0]; rfl) ⟨rfl, Keeps.refl _ _⟩
    | 15, _, _, hi, hR =>
      have hi1 := hi
      simp only [List.getElem?_cons_succ, List.getElem?_cons_zero, Option.some.injEq] at hi1
      subst hi1
      have e0 : actq.eval (.tmp 102) = Mm.tupAt (r 7) 2 := hd.val (j := 11) (by kernel_rfl) rfl rfl rfl
      exact wpOp_ranL hi rfl (v := Mm.tupAt (r 7) 2) (w' := w') (by simp only [execOp, e0]; rfl) ⟨rfl, Keeps.refl _ _⟩
    | n + 16, _, _, hi, _ => simp at hi
  case HC =>
    intro c o hc hi actq w' r hk hd hR
    have h1 : c = 7 := by simpa [Mm.mkMC] using hc
    subst h1
    · have hi1 := hi
      simp only [List.getElem?_cons_succ, List.getElem?_cons_zero, Option.some.injEq] at hi1
      subst hi1
      have e0 : actq.eval (.tmp 97) = .agg #[.int .i64 q, .slice ab n cb, .slice ap np cp, .slice aq ns cq] := hd.val (j := 5) (by kernel_rfl) rfl rfl rfl
      have e1 : actq.eval (.tmp 98) = .agg #[.int .i64 x.i, .int .i64 0, .int .i64 0, .int .i64 x.g, .int .i64 x.o, .int .i64 x.a, .int .u32 (x.s : Int), .slice ab9 nb9 cb9] := hd.val (j := 6) (by kernel_rfl) rfl rfl rfl
      exact wpOp_callL hi rfl (f := 52) (args := #[.agg #[.int .i64 q, .slice ab n cb, .slice ap np cp, .slice aq ns cq], .agg #[.int .i64 x.i, .int .i64 0, .int .i64 0, .int .i64 x.g, .int .i64 x.o, .int .i64 x.a, .int .u32 (x.s : Int), .slice ab9 nb9 cb9]]) (by simp only [execOp_call_go, List.map_toArray, List.map_cons, List.map_nil, e0, e1]; rfl) ((HAC.out w' ab9 cb9 (HK.out.trans hk) ((SBY.out.keep hk (fun _ _ _ h => h)).mono (fun b hb _ => hb))).mono (fun e w2 ⟨v, he, hk2, a0, c0, a1, c1, a2, c2, g0, g1, g2, g3⟩ => ⟨v, he, v, rfl, hk2, ⟨a0, c0, a1, c1, a2, c2, g0, g1.mono (fun b _ h => ⟨.inr h, by have h1 := hk.size; have h2 := HK.out.size; omega⟩), g2.mono (fun b _ h => ⟨.inr h, by have h1 := hk.size; have h2 := HK.out.size; omega⟩), g3.mono (fun b _ h => ⟨.inr h, by have h1 := hk.size; have h2 := HK.out.size; omega⟩)⟩⟩))
  case HE =>
    intro L actq w' gg r hL hT
    have em := act_mix (bs := [true, true, true, true, true, true, true, true, true, true, true, true, true, true, true, false, false, false, true, true, true, true, true, true, true, true, true, true, true, true, true, true, true, true, true, true, true, true, true, true, true, true, true, true, true, true, true, true, true, true, true, true, true, true, true, true, true, true, true, true, true, true, true, true, true, true, true, true, true, true, true, true, true, true, true, true, true, true, true, true, true, true, true, true, true, true, true, true, true, true, true, false, false, false, false, false, false, false, false, false, false, false, false, true, true, true, true, true, true, true, true, true, true, true, true, true, true, true, true, true, true]) hT.sz hT.df hT.fr rfl (by kernel_rfl)
    have kW := hT.kp
    have hR7 := hT.c 7 rfl (hL 7 (by decide))
    obtain ⟨eA12, zA12, cs12, -, bA12, sA12⟩ := hT.al 12 rfl (hL 12 (by decide)) _ 15 rfl rfl
    have sA12 := sA12 13 rfl (hL 13 (by decide)) rfl
    subst sA12
    change actq.tmps.getD 15 undef = _ at eA12
    change Blk w' (gg 12) (aggCells (Mm.tupAt (r 7) 0)) 44 at bA12
    have k16 : actq.tmps.getD 16 undef = Mm.tupAt (r 7) 1 := hT.v 14 _ 16 rfl (hL 14 (by decide)) rfl rfl
    have k17 : actq.tmps.getD 17 undef = Mm.tupAt (r 7) 2 := hT.v 15 _ 17 rfl (hL 15 (by decide)) rfl rfl
    generalize hrv7 : r 7 = rv7 at *
    clear hrv7
    obtain ⟨a0, c0, a1, c1, a2, c2, rfl, hy1, hy2, hy3⟩ := hR7
    change actq.tmps.getD 16 undef = .bool true at k16
    change actq.tmps.getD 17 undef = .int .i64 0 at k17
    generalize gg 12 = g12 at *
    clear hT hL
    simp only [mix, eA12, k16, k17] at em
    clear eA12 k16 k17
    generalize actq.tmps.getD 92 undef = q92 at em
    generalize actq.tmps.getD 93 undef = q93 at em
    generalize actq.tmps.getD 94 undef = q94 at em
    generalize actq.tmps.getD 95 undef = q95 at em
    generalize actq.tmps.getD 96 undef = q96 at em
    generalize actq.tmps.getD 97 undef = q97 at em
    generalize actq.tmps.getD 98 undef = q98 at em
    generalize actq.tmps.getD 99 undef = q99 at em
    generalize actq.tmps.getD 91 undef = q91 at em
    generalize actq.tmps.getD 100 undef = q100 at em
    generalize actq.tmps.getD 101 undef = q101 at em
    generalize actq.tmps.getD 102 undef = q102 at em
    subst em
    simp only [Exit.then]
    obtain ⟨W17, rfl⟩ : ∃ V, V = w' := ⟨_, rfl⟩
    change Blk W17 g12 #[.int .i64 q, .slice a0 bs2.length c0, .slice a1 ps.length c1, .slice a2 sn2.length c2] _ at bA12
    rw [HN2.out, HNP.out, HNS2.out] at bA12
    have RR := hid bA12
    clear bA12 HPX
    have ltR := blk_lt RR.out
    have HY1 := hid (hy1.mono (K' := fun b => w.heap.size ≤ b) (fun b _ h => h.2)); have HY2 := hid (hy2.mono (K' := fun b => w.heap.size ≤ b) (fun b _ h => h.2)); have HY3 := hid (hy3.mono (K' := fun b => w.heap.size ≤ b) (fun b _ h => h.2))
    clear hy1 hy2 hy3
    have HN' : Hd (NibF W17) := hid (HN.out.keep kW (fun _ _ _ h => h))
    have HD' : Hd (Sl (fun b => b < w.heap.size) W17 (.slice ad dn cd) (u8s data)) := hid (HD.out.keep kW (fun _ _ _ h => h))
    have BX' : Hd (Blk W17 bX #[(.int .i64 x.i), (.int .i64 0), (.int .i64 0), (.int .i64 x.g), (.int .i64 x.o), (.int .i64 x.a), (.int .u32 (x.s : Int)), (.slice ab9 nb9 cb9)] 59) := hid (blk_keep BX.out kW (fun h => h))
    have X1' : Hd (RdT W1.heap.size px (rdD y).1 W17) := hid (X1.out.keep kW (fun _ _ _ h => h))
    have SBY' : Hd (Sl (fun b => W13.heap.size ≤ b) W17 (.slice ab9 nb9 cb9) (u8s x.d)) := hid (SBY.out.keep kW (fun _ _ _ h => h))
    clear HN HD BX X1 SBY
    have HN := HN'
    clear HN'
    have HD := HD'
    clear HD'
    have BX := BX'
    clear BX'
    have X1 := X1'
    clear X1'
    have SBY := SBY'
    clear SBY'
    have HK' : Hd (Keeps (fun _ => False) w W17) := hid (HK.out.trans kW)
    clear HK
    have HK := HK'
    clear HK'
    have z_W17 := kW.size
    clear kW
    go_upto_region 17 with fail
    have o_RR_0 : W17.cell? ⟨g12, 0, none⟩ = some ((.int .i64 q)) := blk_cell RR.out 0
    have o_RR_1 : W17.cell? ⟨g12, 1, none⟩ = some ((.slice a0 n2 c0)) := blk_cell RR.out 1
    have o_RR_2 : W17.cell? ⟨g12, 2, none⟩ = some ((.slice a1 np c1)) := blk_cell RR.out 2
    have o_RR_3 : W17.cell? ⟨g12, 3, none⟩ = some ((.slice a2 ns2 c2)) := blk_cell RR.out 3
    obtain ⟨pc0, pc1, pc2, pc3⟩ := HPC.out _ HK.out
    have pf0 := HFZ.out _ HK.out (at_ * 4)
    have pf1 := HFZ.out _ HK.out (at_ * 4 + 1)
    have pf2 := HFZ.out _ HK.out (at_ * 4 + 2)
    have pf3 := HFZ.out _ HK.out (at_ * 4 + 3)
    have hat0 : (0 : Int) ≤ (at_ : Int) := by omega
    have hat3 : (at_ : Int) < 3 := by omega
    go_region
    go_upto_region 19 with fail
    clear pc0 pc1 pc2 pc3 pf0 pf1 pf2 pf3
    clear o_RR_0 o_RR_1 o_RR_2 o_RR_3
    generalize hW : World.drew (World.setCell (World.setCell (World.setCell (World.setCell W17 _ _) _ _) _ _) _ _) = W18
    have HSP : Hd (SetP w p at_ q bs2 ps sn2 W18) := hid ⟨W17.drew, a0, c0, a1, c1, a2, c2, HK.out.drew, HY1.out, HY2.out, HY3.out, by rw [← hW, HN2.out, HNP.out, HNS2.out]; rfl⟩
    have KS : Keeps (fun b => b = p) W17 W18 := by rw [← hW]; exact Keeps.drew (((((Keeps.refl (fun b => b = p) W17).setCell (p := ⟨p, at_ * 4, none⟩) (.inl rfl) _).setCell (p := ⟨p, at_ * 4 + 1, none⟩) (.inl rfl) _).setCell (p := ⟨p, at_ * 4 + 2, none⟩) (.inl rfl) _).setCell (p := ⟨p, at_ * 4 + 3, none⟩) (.inl rfl) _)
    have BX8 := hid (blk_keep BX.out KS (fun h => by omega))
    clear hW KS
    have o_BX8_0 : W18.cell? ⟨bX, 0, none⟩ = some ((.int .i64 x.i)) := blk_cell BX8.out 0
    go_wp2_with fail
    have hcc := confirmation_any x.i W18 HXO.out.i
    refine hcc.mono ?_
    clear hcc
    rintro e W19 ⟨ac, nc, cc, rfl, hnc, hoc, hk⟩
    have hnc2 : nc = cl := by rw [hnc, u8s_length, HCLN.out]
    have HSC := hid (show Sl (fun _ => True) W19 (.slice ac nc cc) (u8s (conL x.i)) from (row_sl hoc.row hnc.symm).mono (fun _ _ _ => trivial))
    clear hnc hoc
    subst hnc2
    have HK8 := hid hk
    clear hk
    clear o_BX8_0
    go_wp2_with fail
    refine (HSEND.out W18 W19 ac cc HSP.out HK8.out HSC.out).mono ?_
    rintro e w9 ⟨rfl, hq⟩
    have HQ := hid hq
    clear hq HSEND HSC HSP
    go_wp2
    go_end0
    exact ⟨rfl, HQ.out⟩
end Go.Proofs.YtgfekgceeigdiaaDoor
