/- The walks of the clock's functions on intervals. -/
import Derived.Test.YtjdalhnffhoknaaClockA
import Derived.Test.YtjdalhnffhoknaaRegion
import Derived.Deep.RegionHeld3
namespace Go.Proofs.Ytjdalhnffhoknaa
open Go.RowKit

def ivV (t : Iv) : Value := .agg #[.int .i64 t.lo, .int .i64 t.hi]
def RetIv (t : Iv) (w : World) (e : Ending) (w' : World) : Prop := e = .returned (.agg #[.int .i64 t.lo, .int .i64 t.hi]) ∧ Keeps (fun _ => False) w w'
def timeIv (a b : Int) : Iv := ⟨around a 1000001, around a 1000001 + around b (1000000 - around a 1000001 + 1)⟩
theorem timeIv_b (a b : Int) : 0 ≤ (timeIv a b).lo ∧ (timeIv a b).lo ≤ (timeIv a b).hi ∧ (timeIv a b).hi ≤ 1000000 := by
  have h1 := around_b a 1000001 (by omega)
  have h2 := around_b b (1000000 - around a 1000001 + 1) (by omega)
  unfold timeIv; simp only; omega
set_option maxRecDepth 100000 in set_option maxHeartbeats 400000 in
theorem Time_any (a b : Int) (w : World) (h0 : -9223372036854775808 ≤ a) (h1 : a ≤ 9223372036854775807) (h2 : -9223372036854775808 ≤ b) (h3 : b ≤ 9223372036854775807) :
    Calls Try.prog 44 #[.int .i64 a, .int .i64 b] w fun e w' => RetIv (timeIv a b) w e w' := by
  have H0 := hid h0; have H1 := hid h1; have H2 := hid h2; have H3 := hid h3; clear h0 h1 h2 h3
  obtain ⟨b0, b1⟩ := around_b a 1000001 (by omega)
  obtain ⟨b2, b3⟩ := around_b b (1000000 - around a 1000001 + 1) (by omega)
  go_enter Try.func44, Try.ntmps44
  go_wp2_with fail
  refine (Around_any a _ _ H0.out H1.out (by omega) (by omega)).mono ?_
  rintro e w1 ⟨rfl, rfl⟩
  go_wp2_with fail
  refine (Around_any b _ _ H2.out H3.out (by omega) (by omega)).mono ?_
  rintro e w1 ⟨rfl, rfl⟩
  go_wp2
  refine bodyPost_ret (v := .agg #[.int .i64 (around a 1000001), .int .i64 (around a 1000001 + around b (1000000 - around a 1000001 + 1))]) (by simp [results, Try.results44, go_sem]) rfl ⟨rfl, ?_⟩
  repeat (first | (with_reducible assumption) | (with_reducible exact Keeps.refl _ _) | (with_reducible apply Keeps.drewN) | (with_reducible apply Keeps.drew) | (with_reducible apply Keeps.alloc) | refine Keeps.setCell ?_ (by first | (simp; done) | (simp; omega)) _)
set_option maxRecDepth 100000 in set_option maxHeartbeats 400000 in
theorem Advance_any (t : Iv) (c d : Int) (w : World) (h0 : 0 ≤ t.lo) (h1 : t.lo ≤ 1000000) (h2 : 0 ≤ t.hi) (h3 : t.hi ≤ 1000000) (h4 : 0 ≤ c) (h5 : c ≤ 1000000000000) (h6 : 1 ≤ d) (h7 : d ≤ 1000000000) :
    Calls Try.prog 15 #[.agg #[.int .i64 t.lo, .int .i64 t.hi], .int .i64 c, .int .i64 d] w fun e w' => RetIv (adv t c d) w e w' := by
  have e4 := ceil_nonneg h4 h6
  have e5 := ceil_le h4 h6
  go_enter Try.func15, Try.ntmps15
  go_wp2_with fail
  refine (errs_any c d _ h4 h5 h6 h7).mono ?_
  rintro e w1 ⟨rfl, rfl⟩
  go_wp2_with fail
  generalize hW : World.alloc (World.alloc w _) _ = W
  have B1 : Blk W w.heap.size #[.int .i64 t.lo, .int .i64 t.hi] 25 := by rw [← hW]; exact blk_alloc (blk_new _ _ _) _
  have B2 : Blk W (w.heap.size + 1) #[.int .i64 0, .int .i64 0] 25 := by rw [← hW]; exact blk_new' _ _ _ _ (by simp)
  have HK : Hd (Keeps (fun _ => False) w W) := hid (by rw [← hW]; repeat (first | (with_reducible assumption) | (with_reducible exact Keeps.refl _ _) | (with_reducible apply Keeps.drewN) | (with_reducible apply Keeps.drew) | (with_reducible apply Keeps.alloc) | refine Keeps.setCell ?_ (by first | (simp; done) | (simp; omega)) _))
  have ca : ∀ x : Ext W, x.w.cell? ⟨w.heap.size, 0, none⟩ = some _ := ext_bcell (B1) 0 rfl; have cb : ∀ x : Ext W, x.w.cell? ⟨w.heap.size, 1, none⟩ = some _ := ext_bcell (B1) 1 rfl; have cf : ∀ x : Ext W, x.w.frozen? ⟨w.heap.size, 0, none⟩ = false := ext_bfree (B1) 0; have cg : ∀ x : Ext W, x.w.frozen? ⟨w.heap.size, 1, none⟩ = false := ext_bfree (B1) 1
  have da : ∀ x : Ext W, x.w.cell? ⟨w.heap.size + 1, 0, none⟩ = some _ := ext_bcell (B2) 0 rfl; have db : ∀ x : Ext W, x.w.cell? ⟨w.heap.size + 1, 1, none⟩ = some _ := ext_bcell (B2) 1 rfl; have df : ∀ x : Ext W, x.w.frozen? ⟨w.heap.size + 1, 0, none⟩ = false := ext_bfree (B2) 0; have dg : ∀ x : Ext W, x.w.frozen? ⟨w.heap.size + 1, 1, none⟩ = false := ext_bfree (B2) 1
  clear hW
  refine wp_region_ext_tail 15 (by kernel_rfl) (by kernel_rfl) ?_; simp only [List.take_succ_cons, List.take_zero, List.drop_succ_cons, List.drop_zero]
  repeat (go_big_quiet_step (first | (go_at_call 46; exact ext_same (limited_any _ _))))
  refine wpQuiet_nil ?_
  rintro _ ⟨x, rfl⟩
  go_wp2
  obtain ⟨HV, B3⟩ := fin2 (HK.out.trans x.k) (by omega) (ext_blk B2 x) (.int .i64 (lim (t.lo + c - ceil c d))) (.int .i64 (lim (t.hi + c + ceil c d)))
  have r0 := blk_cell B3 0
  have r1 := blk_cell B3 1
  refine bodyPost_ret (v := .agg #[.int .i64 (lim (t.lo + c - ceil c d)), .int .i64 (lim (t.hi + c + ceil c d))]) (by simp [results, Try.results15, go_sem, r0, r1]) rfl ⟨rfl, HV⟩
set_option maxRecDepth 100000 in set_option maxHeartbeats 400000 in
theorem RAdvance_any (t : Iv) (c d : Int) (w : World) (h0 : 0 ≤ t.lo) (h1 : t.lo ≤ 1000000) (h2 : 0 ≤ t.hi) (h3 : t.hi ≤ 1000000) (h4 : 0 ≤ c) (h5 : c ≤ 1000000000000) (h6 : 1 ≤ d) (h7 : d ≤ 1000000000) :
    Calls Try.prog 18 #[.agg #[.int .i64 t.lo, .int .i64 t.hi], .int .i64 c, .int .i64 d] w fun e w' => RetIv (adv t c d) w e w' := by
  have e4 := ceil_nonneg h4 h6
  have e5 := ceil_le h4 h6
  go_enter Try.func18, Try.ntmps18
  go_wp2_with fail
  refine (Error_any c d _ h4 h5 h6 h7).mono ?_
  rintro e w1 ⟨rfl, md, rfl⟩
  go_wp2_with fail
  generalize hW : World.drewN (World.alloc (World.alloc w _) _) _ = W
  have B1 : Blk W w.heap.size #[.int .i64 t.lo, .int .i64 t.hi] 25 := by rw [← hW]; exact blk_drewN (blk_alloc (blk_new _ _ _) _) _
  have B2 : Blk W (w.heap.size + 1) #[.int .i64 0, .int .i64 0] 25 := by rw [← hW]; exact blk_drewN (blk_new' _ _ _ _ (by simp)) _
  have HK : Hd (Keeps (fun _ => False) w W) := hid (by rw [← hW]; repeat (first | (with_reducible assumption) | (with_reducible exact Keeps.refl _ _) | (with_reducible apply Keeps.drewN) | (with_reducible apply Keeps.drew) | (with_reducible apply Keeps.alloc) | refine Keeps.setCell ?_ (by first | (simp; done) | (simp; omega)) _))
  have ca : ∀ x : Ext W, x.w.cell? ⟨w.heap.size, 0, none⟩ = some _ := ext_bcell (B1) 0 rfl; have cb : ∀ x : Ext W, x.w.cell? ⟨w.heap.size, 1, none⟩ = some _ := ext_bcell (B1) 1 rfl; have cf : ∀ x : Ext W, x.w.frozen? ⟨w.heap.size, 0, none⟩ = false := ext_bfree (B1) 0; have cg : ∀ x : Ext W, x.w.frozen? ⟨w.heap.size, 1, none⟩ = false := ext_bfree (B1) 1
  have da : ∀ x : Ext W, x.w.cell? ⟨w.heap.size + 1, 0, none⟩ = some _ := ext_bcell (B2) 0 rfl; have db : ∀ x : Ext W, x.w.cell? ⟨w.heap.size + 1, 1, none⟩ = some _ := ext_bcell (B2) 1 rfl; have df : ∀ x : Ext W, x.w.frozen? ⟨w.heap.size + 1, 0, none⟩ = false := ext_bfree (B2) 0; have dg : ∀ x : Ext W, x.w.frozen? ⟨w.heap.size + 1, 1, none⟩ = false := ext_bfree (B2) 1
  clear hW
  refine wp_region_ext_tail 15 (by kernel_rfl) (by kernel_rfl) ?_; simp only [List.take_succ_cons, List.take_zero, List.drop_succ_cons, List.drop_zero]
  repeat (go_big_quiet_step (first | (go_at_call 48; exact ext_same (Limit_any _ _))))
  refine wpQuiet_nil ?_
  rintro _ ⟨x, rfl⟩
  go_wp2
  obtain ⟨HV, B3⟩ := fin2 (HK.out.trans x.k) (by omega) (ext_blk B2 x) (.int .i64 (lim (t.lo + c - ceil c d))) (.int .i64 (lim (t.hi + c + ceil c d)))
  have r0 := blk_cell B3 0
  have r1 := blk_cell B3 1
  refine bodyPost_ret (v := .agg #[.int .i64 (lim (t.lo + c - ceil c d)), .int .i64 (lim (t.hi + c + ceil c d))]) (by simp [results, Try.results18, go_sem, r0, r1]) rfl ⟨rfl, HV⟩

/-- what Correlate hands back -/
def RetCor (r : Iv × Int) (w : World) (e : Ending) (w' : World) : Prop := e = .returned (.tuple #[.agg #[.int .i64 r.1.lo, .int .i64 r.1.hi], .int .i64 r.2]) ∧ Keeps (fun _ => False) w w'
set_option maxRecDepth 100000 in set_option maxHeartbeats 1000000 in
theorem Correlate_bad (t : Iv) (s : Sm) (now d : Int) (w : World) (hbad : s.bad now) :
    Calls Try.prog 21 #[.agg #[.int .i64 t.lo, .int .i64 t.hi], .agg #[.int .i64 s.sent, .int .i64 s.recv, .int .i64 s.tick], .int .i64 now, .int .i64 d] w fun e w' => RetCor (cor t s now d) w e w' := by
  have HE : Hd (cor t s now d = (⟨0, 0⟩, 1)) := hid (by unfold cor; rw [if_pos hbad])
  unfold Sm.bad at hbad
  rcases hbad with h | h | h | h | h
  all_goals
    go_enter Try.func21, Try.ntmps21
    go_wp2
  all_goals
    refine bodyPost_ret (v := .tuple #[.agg #[.int .i64 0, .int .i64 0], .int .i64 1]) (by simp [results, Try.results21, go_sem]) rfl ⟨by rw [HE.out], ?_⟩
    repeat (first | (with_reducible assumption) | (with_reducible exact Keeps.refl _ _) | (with_reducible apply Keeps.drewN) | (with_reducible apply Keeps.drew) | (with_reducible apply Keeps.alloc) | refine Keeps.setCell ?_ (by first | (simp; done) | (simp; omega)) _)
end Go.Proofs.Ytjdalhnffhoknaa
