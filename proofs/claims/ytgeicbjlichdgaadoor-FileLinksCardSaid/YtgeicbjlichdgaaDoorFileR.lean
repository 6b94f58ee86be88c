/- File: Clone. -/
import Derived.Test.YtgeicbjlichdgaaDoorFileP
import Derived.Test.YtgeicbjlichdgaaDoorHeld
import Derived.Deep.RegionHeld
import Derived.Deep.CutRange
namespace Go.Proofs.YtgeicbjlichdgaaDoor
open Go.RowKit
attribute [local go_sem ↓] Go.wp_at_zero Go.wp_at_succ
/-- the two copies, apart, in new memory -/
def ClR (W : World) (hv : List Bool) (dt : List Nat) (u v : Value) (w : World) : Prop := ∃ ah ch ad cd, u = .slice ah hv.length ch ∧ v = .slice ad dt.length cd ∧
  Own (fun b => W.heap.size ≤ b ∧ (Value.slice ad dt.length cd).ownBlock ≠ some b) w 4 1 (.slice ah hv.length ch) hv.length (bls hv) ∧
  Own (fun b => W.heap.size ≤ b) w 5 1 (.slice ad dt.length cd) dt.length (u8s dt) ∧ Hd (Keeps (fun _ => False) W w)
theorem clr_mk {W V : World} {hv : List Bool} {dt : List Nat} {ah : Option Addr} {ch : Nat} {ad : Option Addr} {cd : Nat} {wb wd Xb Xd : World} (ob : Own (fun k => Xb.heap.size ≤ k) wb 4 1 (.slice ah hv.length ch) hv.length (bls hv)) (od : Own (fun k => Xd.heap.size ≤ k) wd 5 1 (.slice ad dt.length cd) dt.length (u8s dt))
    (hb : W.heap.size ≤ Xb.heap.size) (hd : W.heap.size ≤ Xd.heap.size) (kb : Keeps (fun _ => False) wb V) (kd : Keeps (fun _ => False) wd V) (hk : Keeps (fun _ => False) W V) (hx : wb.heap.size ≤ Xd.heap.size ∨ wd.heap.size ≤ Xb.heap.size) : ClR W hv dt (.slice ah hv.length ch) (.slice ad dt.length cd) V := by
  refine ⟨ah, ch, ad, cd, rfl, rfl, ⟨(ob.keep kb (fun _ _ _ h => h)).1, fun b hb2 => ⟨?_, fun e => ?_⟩⟩, (od.keep kd (fun _ _ _ h => h)).mono (fun b _ h => Nat.le_trans hd h), hid hk⟩
  · exact Nat.le_trans hb (ob.2 b hb2)
  · have h1 := ob.2 b hb2; have h2 := od.2 b e
    have h3 := (ob.1.lt b hb2).2; have h4 := (od.1.lt b e).2
    omega
theorem clone_fin {w W V : World} {q : Nat} {M : Pm} {ah : Option Addr} {ch : Nat} {ad : Option Addr} {cd : Nat} {u v : Value} (h0 : Keeps (fun _ => False) w W) (h1 : Keeps (fun _ => False) W V) (hq : Blk V q #[.int .i64 M.id, .bool M.kn, .int .u32 (M.sm : Int), .slice ah M.hv.length ch, .slice ad M.dt.length cd] 79) (hw : w.heap.size ≤ q) (hqW : q < W.heap.size) (hc : ClR W M.hv M.dt u v V) :
    ∃ q', Ending.returned (Value.pointer (some ⟨q, 0, none⟩)) = .returned (.pointer (some ⟨q', 0, none⟩)) ∧ PartR (fun b => w.heap.size ≤ b) ((V.setCell ⟨q, 3, none⟩ u).setCell ⟨q, 4, none⟩ v) q' M ∧ Keeps (fun _ => False) w ((V.setCell ⟨q, 3, none⟩ u).setCell ⟨q, 4, none⟩ v) := by
  obtain ⟨ah2, ch2, ad2, cd2, rfl, rfl, ob, od, hk⟩ := hc
  have k2 : Keeps (fun b => b = q) V ((V.setCell ⟨q, 3, none⟩ (.slice ah2 M.hv.length ch2)).setCell ⟨q, 4, none⟩ (.slice ad2 M.dt.length cd2)) := keq (keq (Keeps.refl _ _) _ _) _ _
  have z0 := h0.size
  refine ⟨q, rfl, ⟨ah2, ch2, ad2, cd2, blk_set (blk_set hq 3 _) 4 _, hw, ?_, ?_⟩, (h0.trans h1).trans' k2 (fun i hi h => by omega)⟩
  · exact (ob.keep k2 (fun b _ h1 h2 => by have := h1.1; omega)).mono (fun b _ h => ⟨by have := h.1; omega, by have := h.1; omega, h.2⟩)
  · exact (od.keep k2 (fun b _ h1 h2 => by omega)).mono (fun b _ h => ⟨by omega, by omega⟩)
set_option maxRecDepth 100000 in set_option maxHeartbeats 1000000 in
theorem Clone_any (Z : Nat → Prop) (p : Nat) (M : Pm) (w : World) (hP : PartR Z w p M) (hM : M.ok) :
    Calls Tryd.prog 34 #[.pointer (some ⟨p, 0, none⟩)] w fun e w' => ∃ q, e = .returned (.pointer (some ⟨q, 0, none⟩)) ∧ PartR (fun b => w.heap.size ≤ b) w' q M ∧ Keeps (fun _ => False) w w' := by
  obtain ⟨ah, ch, ad, cd, b1, zp, o1, o2⟩ := hP
  have HB := hid b1; have HR := hid o1.row; have HD := hid (row_sl o2.row (by rw [u8s_length]))
  have hm : M.hv.length ≤ 65536 := by rw [hM.len]; exact hM.max
  have hm2 : M.dt.length ≤ 65536 := hM.max
  clear b1 o1 o2 hM
  have hpw := blk_lt HB.out
  have o0 : w.cell? ⟨p, 0, none⟩ = some (.int .i64 M.id) := blk_cell HB.out 0
  have o1 : w.cell? ⟨p, 1, none⟩ = some (.bool M.kn) := blk_cell HB.out 1
  have o2 : w.cell? ⟨p, 2, none⟩ = some (.int .u32 (M.sm : Int)) := blk_cell HB.out 2
  have o3 : w.cell? ⟨p, 3, none⟩ = some (.slice ah M.hv.length ch) := blk_cell HB.out 3
  have o4 : w.cell? ⟨p, 4, none⟩ = some (.slice ad M.dt.length cd) := blk_cell HB.out 4
  go_enter Tryd.func34, Tryd.ntmps34
  go_upto_region 2 with fail
  clear o0 o1 o2 o3 o4
  generalize hW : World.alloc w _ = W1
  have KS : Hd (Keeps (fun _ => False) w W1) := hid (by rw [← hW]; exact (Keeps.alloc (Keeps.refl (fun _ => False) w) _))
  have HB' : Hd (Blk W1 p #[(.int .i64 M.id), (.bool M.kn), (.int .u32 (M.sm : Int)), (.slice ah M.hv.length ch), (.slice ad M.dt.length cd)] 79) := hid (by rw [← hW]; exact (blk_alloc HB.out _))
  have HR' : Hd (Row (fun b => Z b ∧ b ≠ p ∧ (Value.slice ad M.dt.length cd).ownBlock ≠ some b) W1 1 (.slice ah M.hv.length ch) M.hv.length (bls M.hv)) := hid (HR.out.keep KS.out (fun _ _ _ h => h))
  have HD' : Hd (Sl (fun b => Z b ∧ b ≠ p) W1 (.slice ad M.dt.length cd) (u8s M.dt)) := hid (HD.out.keep KS.out (fun _ _ _ h => h))
  have HQ : Hd (Blk W1 w.heap.size #[(.int .i64 M.id), (.bool M.kn), (.int .u32 (M.sm : Int)), (.slice ah M.hv.length ch), (.slice ad M.dt.length cd)] 79) := hid (by rw [← hW]; exact (blk_new _ _ _))
  clear HB HR HD
  have HB := HB'
  clear HB'
  have HR := HR'
  clear HR'
  have HD := HD'
  clear HD'
  have HK : Hd (Keeps (fun _ => False) w W1) := hid KS.out
  have z_W1 : w.heap.size + 1 ≤ W1.heap.size := by rw [← hW]; simp
  clear hW KS
  have HRV : Hd (∀ V, Keeps (fun _ => False) W1 V → Row (fun b => Z b ∧ b ≠ p ∧ (Value.slice ad M.dt.length cd).ownBlock ≠ some b) V 1 (.slice ah M.hv.length ch) M.hv.length (bls M.hv)) := hid (fun V hk => HR.out.keep hk (fun _ _ _ h => h))
  have HDV : Hd (∀ V, Keeps (fun _ => False) W1 V → Sl (fun b => Z b ∧ b ≠ p) V (.slice ad M.dt.length cd) (u8s M.dt)) := hid (fun V hk => HD.out.keep hk (fun _ _ _ h => h))
  have KC : Hd (Keeps (fun _ => False) W1 W1) := hid (Keeps.refl _ _)
  have KQ : Hd (Keeps (fun b => b = w.heap.size) W1 W1) := hid (Keeps.refl _ _)
  have HSS : Hd (∀ w', Keeps (fun b => b = w.heap.size) W1 w' → (w'.cell? ⟨p, 3, none⟩ = some (.slice ah M.hv.length ch) ∧ w'.cell? ⟨p, 4, none⟩ = some (.slice ad M.dt.length cd))) := hid (fun w' hk => ⟨blk_cell (blk_keep HB.out hk (fun h => by omega)) 3, blk_cell (blk_keep HB.out hk (fun h => by omega)) 4⟩)
  have HQV : Hd (∀ V, Keeps (fun _ => False) W1 V → Blk V w.heap.size #[(.int .i64 M.id), (.bool M.kn), (.int .u32 (M.sm : Int)), (.slice ah M.hv.length ch), (.slice ad M.dt.length cd)] 79) := hid (fun V hk => blk_keep HQ.out hk (fun h => h))
  have hwq : w.heap.size < W1.heap.size := blk_lt HQ.out
  go_region_held (fun w' => w'.cell? ⟨p, 3, none⟩ = some (.slice ah M.hv.length ch) ∧ w'.cell? ⟨p, 4, none⟩ = some (.slice ad M.dt.length cd)) (exact HSS.out _ (by repeat (first | (with_reducible exact KQ.out) | (with_reducible exact Keeps.refl _ _) | (with_reducible apply Keeps.drewN) | (with_reducible apply Keeps.drew) | (with_reducible apply keq))))
    (first
    | (go_at_call 50; (refine (CloneBo_any _ _ M.hv _ (HRV.out _ (by repeat (first | (with_reducible exact KC.out) | (with_reducible exact Keeps.refl _ _) | (with_reducible apply Keeps.drewN) | (with_reducible apply Keeps.drew) | (with_reducible apply Keeps.alloc)))) (by omega)).mono ?_); rintro e wb ⟨ab, cb, rfl, oo, hk⟩; have KC2 : Hd (Keeps (fun _ => False) W1 wb) := hid (Keeps.trans (S := fun _ => False) (by repeat (first | (with_reducible exact KC.out) | (with_reducible exact Keeps.refl _ _) | (with_reducible apply Keeps.drewN) | (with_reducible apply Keeps.drew) | (with_reducible apply Keeps.alloc))) hk); have zx_wb := KC.out.size; have OB := hid oo; have z_wb := hk.size; (try simp at z_wb); have LB : Hd (Keeps (fun _ => False) wb wb) := hid (Keeps.refl _ _); (try replace LD := hid (Keeps.trans (S := fun _ => False) (by repeat (first | (with_reducible exact LD.out) | (with_reducible exact Keeps.refl _ _) | (with_reducible apply Keeps.drewN) | (with_reducible apply Keeps.drew) | (with_reducible apply Keeps.alloc))) hk)); replace KC := KC2; clear KC2 oo hk; replace KQ : Hd (Keeps (fun b => b = w.heap.size) W1 wb) := hid (KC.out.mono (fun _ _ h => h.elim)); have c3_wb : wb.cell? ⟨w.heap.size, 3, none⟩ = some (.slice ah M.hv.length ch) := blk_cell (HQV.out _ KC.out) 3; have f3_wb : wb.frozen? ⟨w.heap.size, 3, none⟩ = false := blk_free (HQV.out _ KC.out) 3; have c4_wb : wb.cell? ⟨w.heap.size, 4, none⟩ = some (.slice ad M.dt.length cd) := blk_cell (HQV.out _ KC.out) 4; have f4_wb : wb.frozen? ⟨w.heap.size, 4, none⟩ = false := blk_free (HQV.out _ KC.out) 4)
    | (go_at_call 45; (refine (Cr.CloneB_any _ _ M.dt _ (HDV.out _ (by repeat (first | (with_reducible exact KC.out) | (with_reducible exact Keeps.refl _ _) | (with_reducible apply Keeps.drewN) | (with_reducible apply Keeps.drew) | (with_reducible apply Keeps.alloc)))) (by omega)).mono ?_); rintro e wd ⟨ad2, nd2, cd2, rfl, hnd2, oo, hk⟩; obtain rfl : nd2 = M.dt.length := (by rw [hnd2, u8s_length]); clear hnd2; have KC2 : Hd (Keeps (fun _ => False) W1 wd) := hid (Keeps.trans (S := fun _ => False) (by repeat (first | (with_reducible exact KC.out) | (with_reducible exact Keeps.refl _ _) | (with_reducible apply Keeps.drewN) | (with_reducible apply Keeps.drew) | (with_reducible apply Keeps.alloc))) hk); have zx_wd := KC.out.size; have OD := hid oo; have z_wd := hk.size; (try simp at z_wd); have LD : Hd (Keeps (fun _ => False) wd wd) := hid (Keeps.refl _ _); (try replace LB := hid (Keeps.trans (S := fun _ => False) (by repeat (first | (with_reducible exact LB.out) | (with_reducible exact Keeps.refl _ _) | (with_reducible apply Keeps.drewN) | (with_reducible apply Keeps.drew) | (with_reducible apply Keeps.alloc))) hk)); replace KC := KC2; clear KC2 oo hk; replace KQ : Hd (Keeps (fun b => b = w.heap.size) W1 wd) := hid (KC.out.mono (fun _ _ h => h.elim)); have c3_wd : wd.cell? ⟨w.heap.size, 3, none⟩ = some (.slice ah M.hv.length ch) := blk_cell (HQV.out _ KC.out) 3; have f3_wd : wd.frozen? ⟨w.heap.size, 3, none⟩ = false := blk_free (HQV.out _ KC.out) 3; have c4_wd : wd.cell? ⟨w.heap.size, 4, none⟩ = some (.slice ad M.dt.length cd) := blk_cell (HQV.out _ KC.out) 4; have f4_wd : wd.frozen? ⟨w.heap.size, 4, none⟩ = false := blk_free (HQV.out _ KC.out) 4))
  all_goals
    go_wp2_with fail
    go_ret
    refine clone_fin (W := W1) (V := _) HK.out KC.out (HQV.out _ KC.out) (Nat.le_refl _) hwq (clr_mk OB.out OD.out (by first | exact Nat.le_refl _ | omega | (simp; omega)) (by first | exact Nat.le_refl _ | omega | (simp; omega)) (by repeat (first | (with_reducible exact LB.out) | (with_reducible exact Keeps.refl _ _) | (with_reducible apply Keeps.drewN) | (with_reducible apply Keeps.drew) | (with_reducible apply Keeps.alloc))) (by repeat (first | (with_reducible exact LD.out) | (with_reducible exact Keeps.refl _ _) | (with_reducible apply Keeps.drewN) | (with_reducible apply Keeps.drew) | (with_reducible apply Keeps.alloc))) KC.out ?_)
    first | (left; first | exact Nat.le_refl _ | (simp; omega)) | (right; first | exact Nat.le_refl _ | (simp; omega))
end Go.Proofs.YtgeicbjlichdgaaDoor
