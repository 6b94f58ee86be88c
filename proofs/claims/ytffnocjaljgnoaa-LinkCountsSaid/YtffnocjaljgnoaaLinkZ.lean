/- Link: LinkCounts walked. -/
import Derived.Test.YtffnocjaljgnoaaLinkY
namespace Go.Proofs.Ytffnocjaljgnoaa
open Go.RowKit
attribute [local go_sem ↓] Go.wp_at_zero Go.wp_at_succ
def LnkP (R : List Flt × Int × Bool) (W : World) (bx : Nat) (cs : Array Value) (wx : World) : Prop := ∃ a c, cs = #[.slice a R.1.length c, .int .i64 R.2.1] ∧ Fls (fun b => W.heap.size ≤ b ∧ b ≠ bx) wx (.slice a R.1.length c) R.1
theorem sentL_len (l : List Flt) (f : Ft) (cn tick fr tt : Int) (data : List Nat) (ds : List Int) : (sentL l f cn tick fr tt data ds).length = l.length + ds.length := by
  induction ds generalizing l with
  | nil => rfl
  | cons d ds ih =>
    show (sentL (putL l (flight f cn tick fr tt data d)) f cn tick fr tt data ds).length = _
    rw [ih, putL_length, List.length_cons]; omega
theorem mem_sentL {l : List Flt} {f : Ft} {cn tick fr tt : Int} {data : List Nat} {ds : List Int} {x : Flt} (h : x ∈ sentL l f cn tick fr tt data ds) : x ∈ l ∨ ∃ d ∈ ds, x = flight f cn tick fr tt data d := by
  induction ds generalizing l with
  | nil => exact .inl h
  | cons d ds ih =>
    rcases ih (l := putL l (flight f cn tick fr tt data d)) h with h | ⟨e, he, h⟩
    · rcases mem_putL h with h | h
      · exact .inl h
      · exact .inr ⟨d, by simp, h⟩
    · exact .inr ⟨e, by simp [he], h⟩
theorem counts_law (f : Ft) (hm : f.m = 0) (data : List Nat) (hd : data.length ≤ 10) : ∃ l, sendL [] 0 [conW] [f] 2 0 12 data = (l, 1, true) ∧ l.length = (if f.k = 1 then 0 else if f.k = 2 then 2 else 1) ∧ (∀ x ∈ l, x.d = spoilL data f) ∧ stepK l 2 = 0 ∧ stepK l 1003 = l.length := by
  have hw : winW [conW] 0 12 2 = some conW := by unfold winW; rw [show min (0 : Int) 12 = 0 from rfl, show max (0 : Int) 12 = 12 from rfl]; rfl
  have hf : fateL [f] 0 = f := by unfold fateL; simp [List.find?, hm]
  have hlen : (sentL [] f 0 2 0 12 data (delays f)).length = (if f.k = 1 then 0 else if f.k = 2 then 2 else 1) := by
    rw [sentL_len]; unfold delays
    split
    · rfl
    · split <;> rfl
  have hmem : ∀ x ∈ sentL [] f 0 2 0 12 data (delays f), 2 < x.t ∧ x.t ≤ 1003 ∧ x.d = spoilL data f := by
    intro x hx
    rcases mem_sentL hx with h | ⟨d, hd, rfl⟩
    · simp at h
    · have := (delays_ok f).2 d hd
      have e : (flight f 0 2 0 12 data d).t = 2 + 1 + d := rfl
      exact ⟨by rw [e]; omega, by rw [e]; omega, rfl⟩
  refine ⟨sentL [] f 0 2 0 12 data (delays f), ?_, hlen, fun x hx => (hmem x hx).2.2, stepK_none (fun x hx => (hmem x hx).1), stepK_all (fun x hx => (hmem x hx).2.1)⟩
  unfold sendL
  rw [hw]
  simp only [sendR]
  rw [if_neg (show ¬ conW.r < (data.length : Int) by show ¬ (10 : Int) < _; omega), hf]; rfl
set_option maxRecDepth 100000 in set_option maxHeartbeats 1000000 in
theorem counts_any (v3 : Value) (l3 : List Nat) (kind delay arg : Int) (w : World) (h3 : Sl (fun b => b < w.heap.size) w v3 (u8s l3)) (hl3 : ∀ c ∈ l3, c < 256) :
    Calls Try.prog 8 #[.int .i64 kind, .int .i64 delay, .int .i64 arg, v3] w fun e w' => e = .returned (.bool true) ∧ Keeps (fun _ => False) w w' := by
  obtain ⟨few, hfew⟩ : ∃ few, l3.take 10 = few := ⟨_, rfl⟩
  have HF1 : Hd (few.length ≤ 10 ∧ ∀ c ∈ few, c < 256) := hid (by rw [← hfew]; exact ⟨by rw [List.length_take]; omega, fun c hc => hl3 c (List.mem_of_mem_take hc)⟩)
  have HF0 := Few_any _ _ l3 10 w h3 (by omega) (by rw [List.length_take]; omega)
  rw [show ((10 : Int).toNat) = 10 from rfl, hfew] at HF0
  have HFZ := hid HF0
  clear h3 hl3 hfew HF0
  go_enter Try.func8, Try.ntmps8
  go_wp2_with fail
  refine HFZ.out.mono ?_
  rintro e w1 ⟨a0, n0, c0, rfl, hn0, ho0, hk⟩
  obtain rfl : n0 = few.length := by rw [hn0, u8s_length]
  have SB : Hd (Sl (fun b => w.heap.size ≤ b) w1 (.slice a0 few.length c0) (u8s few)) := hid (row_sl ho0.row (by rw [u8s_length]))
  clear hn0 ho0 HFZ
  have HK : Hd (Keeps (fun _ => False) w w1) := hid hk
  have z_w1 := hk.size
  clear hk
  go_upto_region 2 with fail
  generalize hW : World.alloc w1 _ = W1
  have KS : Hd (Keeps (fun _ => False) w1 W1) := hid (by rw [← hW]; exact (Keeps.alloc (Keeps.refl (fun _ => False) w1) _))
  have SB' : Hd (Sl (fun b => w.heap.size ≤ b) W1 (.slice a0 few.length c0) (u8s few)) := hid (SB.out.keep KS.out (fun _ _ _ h => h))
  have BM : Hd (Blk W1 w1.heap.size #[.int .i64 0, .int .i64 12, .slice a0 few.length c0] 55) := hid (by rw [← hW]; exact (blk_new _ _ _))
  clear SB
  have SB := SB'
  clear SB'
  have HK' : Hd (Keeps (fun _ => False) w W1) := hid (HK.out.trans KS.out)
  clear HK
  have HK := HK'
  clear HK'
  have z_W1 : w1.heap.size + 1 ≤ W1.heap.size := by rw [← hW]; simp
  clear hW KS
  obtain ⟨f, hf⟩ : ∃ f : Ft, f = ⟨0, kind, delay, arg, []⟩ := ⟨_, rfl⟩
  obtain ⟨l, hR, hlen, hsp, hs2, hs3⟩ := counts_law f (by rw [hf]) few HF1.out.1
  have hfk : f.k = kind := by rw [hf]
  rw [hf] at hR
  have HR := hid hR; have HLEN := hid hlen; have HS2 := hid hs2; have HS3 := hid hs3; have HFK := hid hfk; have HSP := hid hsp
  have HFF := hid hf
  clear hR hlen hs2 hs3 hf hfk hsp
  have hf1 := HF1.out.1
  obtain ⟨R, hRR⟩ : ∃ R : List Flt × Int × Bool, R = (l, 1, true) := ⟨_, rfl⟩
  rw [← hRR] at HR
  have HRR := hid hRR; clear hRR
  go_upto_region 2 with fail
  go_cut [10, 11] from 21 to 31 (fun u10 u11 wx => CutF W1 28 (LnkP R W1) u10 wx ∧ u11 = .bool R.2.2)
  case first =>
    have KC : Hd (Keeps (fun _ => False) W1 W1) := hid (Keeps.refl _ _)
    have HSS : Hd (∀ w', Keeps (fun _ => False) W1 w' → (w'.cell? ⟨w1.heap.size, 0, none⟩ = some (.int .i64 0) ∧ w'.cell? ⟨w1.heap.size, 1, none⟩ = some (.int .i64 12) ∧ w'.cell? ⟨w1.heap.size, 2, none⟩ = some (.slice a0 few.length c0))) := hid (fun w' hk => ⟨blk_cell (blk_keep BM.out hk (fun h => h)) 0, blk_cell (blk_keep BM.out hk (fun h => h)) 1, blk_cell (blk_keep BM.out hk (fun h => h)) 2⟩)
    go_region_held (fun w' => w'.cell? ⟨w1.heap.size, 0, none⟩ = some (.int .i64 0) ∧ w'.cell? ⟨w1.heap.size, 1, none⟩ = some (.int .i64 12) ∧ w'.cell? ⟨w1.heap.size, 2, none⟩ = some (.slice a0 few.length c0)) (exact HSS.out _ (by repeat (first | (with_reducible exact KC.out) | (with_reducible exact Keeps.refl _ _) | (with_reducible apply Keeps.drewN) | (with_reducible apply Keeps.drew) | (with_reducible apply Keeps.alloc) | (refine Keeps.setCell ?_ (.inr (by first | exact Nat.le_refl _ | (simp; done) | (simp; omega) | omega)) _))))
      (first
      | (go_at_call 28; (refine (contact_any _).mono ?_); rintro e wy0 ⟨a1', c1', rfl, hw1, hk⟩; have KC2 : Hd (Keeps (fun _ => False) W1 wy0) := hid (Keeps.trans (S := fun _ => False) (by repeat (first | (with_reducible exact KC.out) | (with_reducible exact Keeps.refl _ _) | (with_reducible apply Keeps.drewN) | (with_reducible apply Keeps.drew) | (with_reducible apply Keeps.alloc))) hk); have zc := KC.out.size; have HWC := hid hw1; have KA1 := hid hk; have L1 : Hd (Keeps (fun _ => False) wy0 wy0) := hid (Keeps.refl _ _); clear hw1; (first | (have HNB2 : Hd (Blk wy0 _ #[.slice none 0 0, .int .i64 0] 28) := hid (blk_keep (by repeat (first | (with_reducible exact HNB.out) | (with_reducible apply blk_drewN) | (with_reducible apply blk_drew) | (with_reducible apply blk_alloc))) hk (fun h => h)); replace HNB := HNB2; clear HNB2) | (have HNB : Hd (Blk wy0 W1.heap.size #[.slice none 0 0, .int .i64 0] 28) := hid (blk_keep (by (repeat (first | (with_reducible apply blk_drewN) | (with_reducible apply blk_drew) | (with_reducible refine blk_new' _ _ _ _ ?_) | (with_reducible apply blk_alloc))); (first | (with_reducible rfl) | (simp; done) | (simp; omega))) hk (fun h => h))) | (have HNB : Hd (Blk wy0 (W1.heap.size + 1) #[.slice none 0 0, .int .i64 0] 28) := hid (blk_keep (by (repeat (first | (with_reducible apply blk_drewN) | (with_reducible apply blk_drew) | (with_reducible refine blk_new' _ _ _ _ ?_) | (with_reducible apply blk_alloc))); (first | (with_reducible rfl) | (simp; done) | (simp; omega))) hk (fun h => h))) | skip); replace KC := KC2; clear KC2; (try (have F0 := blk_cell HNB.out 0; have G0 := blk_free HNB.out 0; have F1 := blk_cell HNB.out 1; have G1 := blk_free HNB.out 1)); have zk := hk.size; (try simp at zk); have zd := KC.out.size; replace hk := hid hk)
      | (go_at_call 27; (refine (Send_any (.slice none 0 0) _ _ [] [conW] [⟨0, kind, delay, arg, []⟩] 0 2 0 12 a0 c0 few _ ⟨[], ⟨rfl, .inl ⟨rfl, rfl⟩⟩, fun i x hx => by simp at hx⟩ ((HWC.out.keep (S := fun _ => False) (by repeat (first | (with_reducible exact L1.out) | (with_reducible exact Keeps.refl _ _) | (with_reducible apply Keeps.drewN) | (with_reducible apply Keeps.drew) | (with_reducible apply Keeps.alloc))) (fun _ _ _ h => h)).mono (fun b h _ => h)) (fts_one (f := ⟨0, kind, delay, arg, []⟩) rfl (by (repeat (first | (with_reducible apply blk_drewN) | (with_reducible apply blk_drew) | (with_reducible refine blk_new' _ _ _ _ ?_) | (with_reducible apply blk_alloc) | (with_reducible refine blk_keep ?_ KA1.out (fun h => h)))); (first | (with_reducible rfl) | (simp; done) | (simp; omega)))) ((SB.out.keep (by repeat (first | (with_reducible exact KC.out) | (with_reducible exact Keeps.refl _ _) | (with_reducible apply Keeps.drewN) | (with_reducible apply Keeps.drew) | (with_reducible apply Keeps.alloc))) (fun _ _ _ h => h)).mono (fun b h1 _ => h1)) HF1.out.2 (by simp) (fun x hx => by simp at hx) (by simp) (fun x hx => by simp at hx; subst hx; simp) (by omega) (by omega) (by omega) (by omega) (by omega)).mono ?_); rw [HR.out]; rintro e wy1 ⟨ar, nr, cr, rfl, rfl, hfr, hk⟩; have KC2 : Hd (Keeps (fun _ => False) W1 wy1) := hid (Keeps.trans (S := fun _ => False) (by repeat (first | (with_reducible exact KC.out) | (with_reducible exact Keeps.refl _ _) | (with_reducible apply Keeps.drewN) | (with_reducible apply Keeps.drew) | (with_reducible apply Keeps.alloc))) hk); have zc := KC.out.size; have HFR := hid (FlO.fls hfr); clear hfr; (first | (have HNB2 : Hd (Blk wy1 _ #[.slice none 0 0, .int .i64 0] 28) := hid (blk_keep (by repeat (first | (with_reducible exact HNB.out) | (with_reducible apply blk_drewN) | (with_reducible apply blk_drew) | (with_reducible apply blk_alloc))) hk (fun h => h)); replace HNB := HNB2; clear HNB2) | (have HNB : Hd (Blk wy1 W1.heap.size #[.slice none 0 0, .int .i64 0] 28) := hid (blk_keep (by (repeat (first | (with_reducible apply blk_drewN) | (with_reducible apply blk_drew) | (with_reducible refine blk_new' _ _ _ _ ?_) | (with_reducible apply blk_alloc))); (first | (with_reducible rfl) | (simp; done) | (simp; omega))) hk (fun h => h))) | (have HNB : Hd (Blk wy1 (W1.heap.size + 1) #[.slice none 0 0, .int .i64 0] 28) := hid (blk_keep (by (repeat (first | (with_reducible apply blk_drewN) | (with_reducible apply blk_drew) | (with_reducible refine blk_new' _ _ _ _ ?_) | (with_reducible apply blk_alloc))); (first | (with_reducible rfl) | (simp; done) | (simp; omega))) hk (fun h => h))) | (have HNB : Hd (Blk wy1 wy0.heap.size #[.slice none 0 0, .int .i64 0] 28) := hid (blk_keep (by (repeat (first | (with_reducible apply blk_drewN) | (with_reducible apply blk_drew) | (with_reducible refine blk_new' _ _ _ _ ?_) | (with_reducible apply blk_alloc))); (first | (with_reducible rfl) | (simp; done) | (simp; omega))) hk (fun h => h))) | (have HNB : Hd (Blk wy1 (wy0.heap.size + 1) #[.slice none 0 0, .int .i64 0] 28) := hid (blk_keep (by (repeat (first | (with_reducible apply blk_drewN) | (with_reducible apply blk_drew) | (with_reducible refine blk_new' _ _ _ _ ?_) | (with_reducible apply blk_alloc))); (first | (with_reducible rfl) | (simp; done) | (simp; omega))) hk (fun h => h))) | skip); replace KC := KC2; clear KC2; (try (have F0 := blk_cell HNB.out 0; have G0 := blk_free HNB.out 0; have F1 := blk_cell HNB.out 1; have G1 := blk_free HNB.out 1)); have zk := hk.size; (try simp at zk); have zd := KC.out.size; replace hk := hid hk))
    all_goals
      go_wp2_with fail
      go_meet
      first | ((with_reducible refine ⟨cutF_new KC.out ?_, rfl⟩); exact (fun w' hk => ⟨ar, cr, rfl, (HFR.out.mono (K' := fun b => W1.heap.size ≤ b ∧ b ≠ wy1.heap.size) (fun b h1 h => by (try simp at h); omega)).keep hk (fun _ _ _ h => h)⟩)) | ((with_reducible refine ⟨cutF_old2 KC.out (by first | exact Nat.le_refl _ | omega | (simp; done) | (simp; omega)) HNB.out ?_, rfl⟩); exact (fun w' hk => ⟨ar, cr, rfl, (HFR.out.keep hk (fun b _ h1 h2 => by (try simp at h1); omega)).mono (fun b _ h => by (try simp at h); omega)⟩)) | ((with_reducible refine ⟨cutF_drew (fun _ _ _ h => h) (cutF_new KC.out ?_), rfl⟩); exact (fun w' hk => ⟨ar, cr, rfl, (HFR.out.mono (K' := fun b => W1.heap.size ≤ b ∧ b ≠ wy1.heap.size) (fun b h1 h => by (try simp at h); omega)).keep hk (fun _ _ _ h => h)⟩)) | ((with_reducible refine ⟨cutF_drew (fun _ _ _ h => h) (cutF_old2 KC.out (by first | exact Nat.le_refl _ | omega | (simp; done) | (simp; omega)) HNB.out ?_), rfl⟩); exact (fun w' hk => ⟨ar, cr, rfl, (HFR.out.keep hk (fun b _ h1 h2 => by (try simp at h1); omega)).mono (fun b _ h => by (try simp at h); omega)⟩))
  case rest =>
    obtain ⟨⟨b_BK, cs_BK, rfl, hb_BK, BK, HP, hk⟩, rfl⟩ := hcut
    replace hk := hk.out
    generalize wc = W2 at *
    have SB' : Hd (Sl (fun b => w.heap.size ≤ b) W2 (.slice a0 few.length c0) (u8s few)) := hid (SB.out.keep hk (fun _ _ _ h => h))
    have BM' : Hd (Blk W2 w1.heap.size #[.int .i64 0, .int .i64 12, .slice a0 few.length c0] 55) := hid (blk_keep BM.out hk (fun h => h))
    clear SB BM
    have SB := SB'
    clear SB'
    have BM := BM'
    clear BM'
    have HK' : Hd (Keeps (fun _ => False) w W2) := hid (HK.out.trans hk)
    clear HK
    have HK := HK'
    clear HK'
    have z_W2 := hk.size
    clear hk
    obtain ⟨ar, cr, rfl, hfr⟩ := HP.out
    rw [HRR.out] at hfr BK ⊢
    have FK : Hd (Fls (fun b => W1.heap.size ≤ b ∧ b ≠ b_BK) W2 (.slice ar l.length cr) l) := hid hfr
    have BK2 : Hd (Blk W2 b_BK #[.slice ar l.length cr, .int .i64 1] 28) := hid BK.out
    clear hfr HP BK
    have BK := BK2; clear BK2
    have hl2 : l.length ≤ 2 := by have h := HLEN.out; split at h; omega; split at h <;> omega
    have HLD : Hd (∀ x ∈ l, x.d.length ≤ 140737488351232) := hid (fun x hx => by rw [HSP.out x hx]; have := (spoil_ok (x := f) (b := few) (by omega) HF1.out.2 (by rw [HFF.out]; simp) (by rw [HFF.out]; simp)).1; omega)
    have o_BK_0 : W2.cell? ⟨b_BK, 0, none⟩ = some (.slice ar l.length cr) := blk_cell BK.out 0
    have o_BK_1 : W2.cell? ⟨b_BK, 1, none⟩ = some (.int .i64 1) := blk_cell BK.out 1
    go_wp2_with fail
    refine (Step_any _ l 1 2 _ (FK.out.mono (fun b h _ => h)) (by omega) HLD.out).mono ?_
    rintro e W3 ⟨sa0, sn0, sc0, so0, sm0, sp0, rfl, hsn0, hsm0, -, -, hk⟩
    have hm0 : sm0 = 0 := by rw [hsm0, HS2.out]; simp
    subst hm0
    clear hsm0
    clear o_BK_0 o_BK_1
    have SB' : Hd (Sl (fun b => w.heap.size ≤ b) W3 (.slice a0 few.length c0) (u8s few)) := hid (SB.out.keep hk (fun _ _ _ h => h))
    have BM' : Hd (Blk W3 w1.heap.size #[.int .i64 0, .int .i64 12, .slice a0 few.length c0] 55) := hid (blk_keep BM.out hk (fun h => h))
    have BK' : Hd (Blk W3 b_BK #[.slice ar l.length cr, .int .i64 1] 28) := hid (blk_keep BK.out hk (fun h => h))
    have FK' : Hd (Fls (fun b => W1.heap.size ≤ b ∧ b ≠ b_BK) W3 (.slice ar l.length cr) l) := hid (FK.out.keep hk (fun _ _ _ h => h))
    clear SB BM BK FK
    have SB := SB'
    clear SB'
    have BM := BM'
    clear BM'
    have BK := BK'
    clear BK'
    have FK := FK'
    clear FK'
    have HK' : Hd (Keeps (fun _ => False) w W3) := hid (HK.out.trans hk)
    clear HK
    have HK := HK'
    clear HK'
    have z_W3 := hk.size
    clear hk
    go_upto_region 4 with fail
    generalize hW : World.alloc W3 _ = W4
    have KS : Hd (Keeps (fun _ => False) W3 W4) := hid (by rw [← hW]; exact (Keeps.alloc (Keeps.refl (fun _ => False) W3) _))
    have SB' : Hd (Sl (fun b => w.heap.size ≤ b) W4 (.slice a0 few.length c0) (u8s few)) := hid (SB.out.keep KS.out (fun _ _ _ h => h))
    have BM' : Hd (Blk W4 w1.heap.size #[.int .i64 0, .int .i64 12, .slice a0 few.length c0] 55) := hid (by rw [← hW]; exact (blk_alloc BM.out _))
    have BK' : Hd (Blk W4 b_BK #[.slice ar l.length cr, .int .i64 1] 28) := hid (by rw [← hW]; exact (blk_alloc BK.out _))
    have FK' : Hd (Fls (fun b => W1.heap.size ≤ b ∧ b ≠ b_BK) W4 (.slice ar l.length cr) l) := hid (FK.out.keep KS.out (fun _ _ _ h => h))
    clear SB BM BK FK
    have SB := SB'
    clear SB'
    have BM := BM'
    clear BM'
    have BK := BK'
    clear BK'
    have FK := FK'
    clear FK'
    have HK' : Hd (Keeps (fun _ => False) w W4) := hid (HK.out.trans KS.out)
    clear HK
    have HK := HK'
    clear HK'
    have z_W4 : W3.heap.size + 1 ≤ W4.heap.size := by rw [← hW]; simp
    clear hW KS
    have o_BK_0 : W4.cell? ⟨b_BK, 0, none⟩ = some (.slice ar l.length cr) := blk_cell BK.out 0
    have o_BK_1 : W4.cell? ⟨b_BK, 1, none⟩ = some (.int .i64 1) := blk_cell BK.out 1
    go_wp2_with fail
    refine (Step_any _ l 1 1003 _ (FK.out.mono (fun b h _ => h)) (by omega) HLD.out).mono ?_
    rintro e W5 ⟨sa1, sn1, sc1, so1, sm1, sp1, rfl, hsn1, hsm1, -, -, hk⟩
    have hm1 : sm1 = l.length := by rw [hsm1, HS3.out]; simp
    subst hm1
    clear hsm1
    clear o_BK_0 o_BK_1
    have SB' : Hd (Sl (fun b => w.heap.size ≤ b) W5 (.slice a0 few.length c0) (u8s few)) := hid (SB.out.keep hk (fun _ _ _ h => h))
    have BM' : Hd (Blk W5 w1.heap.size #[.int .i64 0, .int .i64 12, .slice a0 few.length c0] 55) := hid (blk_keep BM.out hk (fun h => h))
    have BK' : Hd (Blk W5 b_BK #[.slice ar l.length cr, .int .i64 1] 28) := hid (blk_keep BK.out hk (fun h => h))
    have FK' : Hd (Fls (fun b => W1.heap.size ≤ b ∧ b ≠ b_BK) W5 (.slice ar l.length cr) l) := hid (FK.out.keep hk (fun _ _ _ h => h))
    clear SB BM BK FK
    have SB := SB'
    clear SB'
    have BM := BM'
    clear BM'
    have BK := BK'
    clear BK'
    have FK := FK'
    clear FK'
    have HK' : Hd (Keeps (fun _ => False) w W5) := hid (HK.out.trans hk)
    clear HK
    have HK := HK'
    clear HK'
    have z_W5 := hk.size
    clear hk
    go_upto_region 5 with fail
    generalize hW : World.alloc W5 _ = W6
    have KS : Hd (Keeps (fun _ => False) W5 W6) := hid (by rw [← hW]; exact (Keeps.alloc (Keeps.refl (fun _ => False) W5) _))
    have SB' : Hd (Sl (fun b => w.heap.size ≤ b) W6 (.slice a0 few.length c0) (u8s few)) := hid (SB.out.keep KS.out (fun _ _ _ h => h))
    have BM' : Hd (Blk W6 w1.heap.size #[.int .i64 0, .int .i64 12, .slice a0 few.length c0] 55) := hid (by rw [← hW]; exact (blk_alloc BM.out _))
    have BK' : Hd (Blk W6 b_BK #[.slice ar l.length cr, .int .i64 1] 28) := hid (by rw [← hW]; exact (blk_alloc BK.out _))
    have FK' : Hd (Fls (fun b => W1.heap.size ≤ b ∧ b ≠ b_BK) W6 (.slice ar l.length cr) l) := hid (FK.out.keep KS.out (fun _ _ _ h => h))
    clear SB BM BK FK
    have SB := SB'
    clear SB'
    have BM := BM'
    clear BM'
    have BK := BK'
    clear BK'
    have FK := FK'
    clear FK'
    have HK' : Hd (Keeps (fun _ => False) w W6) := hid (HK.out.trans KS.out)
    clear HK
    have HK := HK'
    clear HK'
    have z_W6 : W5.heap.size + 1 ≤ W6.heap.size := by rw [← hW]; simp
    clear hW KS
    have hlen := HLEN.out
    rw [HFK.out] at hlen
    have o_BK_1 : W6.cell? ⟨b_BK, 1, none⟩ = some (.int .i64 1) := blk_cell BK.out 1
    by_cases k1 : kind = 1
    · have d1 : (kind == 1) = true := by simp; exact k1
      have d2 : (kind == 2) = false := by simp; omega
      rw [if_pos k1] at hlen
      have dl : ((l.length : Int) == 0) = true := by rw [hlen]; rfl
      have dl2 : (l.length == 0) = true := by rw [hlen]; rfl
      clear hlen k1
      go_wp2_with fail
      refine (lives_any _).mono ?_
      rintro e W7 ⟨rfl, hk⟩
      clear o_BK_1
      have SB' : Hd (Sl (fun b => w.heap.size ≤ b) W7 (.slice a0 few.length c0) (u8s few)) := hid (SB.out.keep hk (fun _ _ _ h => h))
      have BM' : Hd (Blk W7 w1.heap.size #[.int .i64 0, .int .i64 12, .slice a0 few.length c0] 55) := hid (blk_keep BM.out hk (fun h => h))
      have BK' : Hd (Blk W7 b_BK #[.slice ar l.length cr, .int .i64 1] 28) := hid (blk_keep BK.out hk (fun h => h))
      have FK' : Hd (Fls (fun b => W1.heap.size ≤ b ∧ b ≠ b_BK) W7 (.slice ar l.length cr) l) := hid (FK.out.keep hk (fun _ _ _ h => h))
      clear SB BM BK FK
      have SB := SB'
      clear SB'
      have BM := BM'
      clear BM'
      have BK := BK'
      clear BK'
      have FK := FK'
      clear FK'
      have HK' : Hd (Keeps (fun _ => False) w W7) := hid (HK.out.trans hk)
      clear HK
      have HK := HK'
      clear HK'
      have z_W7 := hk.size
      clear hk
      go_wp2
      go_ret
      exact ⟨rfl, HK.out⟩
    · have d1 : (kind == 1) = false := by simp; exact k1
      rw [if_neg k1] at hlen
      by_cases k2 : kind = 2
      · have d2 : (kind == 2) = true := by simp; exact k2
        rw [if_pos k2] at hlen
        have dl : ((l.length : Int) == 2) = true := by rw [hlen]; rfl
        have dl2 : (l.length == 2) = true := by rw [hlen]; rfl
        clear hlen k1 k2
        go_wp2_with fail
        refine (lives_any _).mono ?_
        rintro e W7 ⟨rfl, hk⟩
        clear o_BK_1
        have SB' : Hd (Sl (fun b => w.heap.size ≤ b) W7 (.slice a0 few.length c0) (u8s few)) := hid (SB.out.keep hk (fun _ _ _ h => h))
        have BM' : Hd (Blk W7 w1.heap.size #[.int .i64 0, .int .i64 12, .slice a0 few.length c0] 55) := hid (blk_keep BM.out hk (fun h => h))
        have BK' : Hd (Blk W7 b_BK #[.slice ar l.length cr, .int .i64 1] 28) := hid (blk_keep BK.out hk (fun h => h))
        have FK' : Hd (Fls (fun b => W1.heap.size ≤ b ∧ b ≠ b_BK) W7 (.slice ar l.length cr) l) := hid (FK.out.keep hk (fun _ _ _ h => h))
        clear SB BM BK FK
        have SB := SB'
        clear SB'
        have BM := BM'
        clear BM'
        have BK := BK'
        clear BK'
        have FK := FK'
        clear FK'
        have HK' : Hd (Keeps (fun _ => False) w W7) := hid (HK.out.trans hk)
        clear HK
        have HK := HK'
        clear HK'
        have z_W7 := hk.size
        clear hk
        go_wp2
        go_ret
        exact ⟨rfl, HK.out⟩
      · have d2 : (kind == 2) = false := by simp; exact k2
        rw [if_neg k2] at hlen
        have dl : ((l.length : Int) == 1) = true := by rw [hlen]; rfl
        have dl2 : (l.length == 1) = true := by rw [hlen]; rfl
        clear hlen k1 k2
        go_wp2_with fail
        refine (lives_any _).mono ?_
        rintro e W7 ⟨rfl, hk⟩
        clear o_BK_1
        have SB' : Hd (Sl (fun b => w.heap.size ≤ b) W7 (.slice a0 few.length c0) (u8s few)) := hid (SB.out.keep hk (fun _ _ _ h => h))
        have BM' : Hd (Blk W7 w1.heap.size #[.int .i64 0, .int .i64 12, .slice a0 few.length c0] 55) := hid (blk_keep BM.out hk (fun h => h))
        have BK' : Hd (Blk W7 b_BK #[.slice ar l.length cr, .int .i64 1] 28) := hid (blk_keep BK.out hk (fun h => h))
        have FK' : Hd (Fls (fun b => W1.heap.size ≤ b ∧ b ≠ b_BK) W7 (.slice ar l.length cr) l) := hid (FK.out.keep hk (fun _ _ _ h => h))
        clear SB BM BK FK
        have SB := SB'
        clear SB'
        have BM := BM'
        clear BM'
        have BK := BK'
        clear BK'
        have FK := FK'
        clear FK'
        have HK' : Hd (Keeps (fun _ => False) w W7) := hid (HK.out.trans hk)
        clear HK
        have HK := HK'
        clear HK'
        have z_W7 := hk.size
        clear hk
        go_wp2
        go_ret
        exact ⟨rfl, HK.out⟩
end Go.Proofs.Ytffnocjaljgnoaa
