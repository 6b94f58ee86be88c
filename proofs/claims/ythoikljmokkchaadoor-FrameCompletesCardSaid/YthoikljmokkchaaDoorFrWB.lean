/- Frame: a frame arrives. -/
import Derived.Test.YthoikljmokkchaaDoorFrWA
import Derived.Deep.DrawnRows
namespace Go.Proofs.YthoikljmokkchaaDoor
open Go.RowKit
attribute [local go_sem ↓] Go.wp_at_zero Go.wp_at_succ
theorem recvM_got {r : Rv} {f : Fr} {B : Int} (h : r.ok B) : (recvM r f).2.1.length ≤ 20 := by
  have hl := h.len
  unfold recvM
  split
  · simp
  · split
    · simp
    · unfold recv2
      repeat' split
      all_goals (try (show ([] : List (List Nat)).length ≤ 20; simp; done))
      unfold delivM
      have := dlvN_le r.fs (r.nx + 1)
      simp only [List.length_cons, List.length_map, List.length_take]
      omega
theorem bd_parts : ∃ i, Tryd.prog.info? 22 = some i ∧ i.zero = some (.slice none 0 0) ∧ i.size = 1 ∧ i.bytes = 24 := by
  obtain ⟨i, hi, h1⟩ := Option.map_eq_some_iff.1 infoBd
  simp only [Prod.mk.injEq] at h1
  exact ⟨i, hi, h1.1, h1.2.1, h1.2.2⟩
theorem frs_after {P : Nat → Prop} {X w' : World} {n : Nat} {v : Value} {l : List Fr} (h : Frs (fun b => P b ∨ X.heap.size ≤ b) w' v l) (hP : ∀ b, P b → b < n) (hn : n ≤ X.heap.size) : ∀ Y, Keeps (fun b => n ≤ b ∧ b < X.heap.size) w' Y → Frs (fun b => P b ∨ n ≤ b) Y v l := fun Y hk =>
  (h.keep hk (fun b _ h1 h2 => by rcases h1 with h1 | h1; (have := hP b h1; omega); omega)).mono (fun b _ h => by rcases h with h | h; exact .inl h; exact .inr (by omega))
theorem bds_after {X w' : World} {n : Nat} {v : Value} {l : List (List Nat)} (h : Bds (fun b => X.heap.size ≤ b) w' v l) (hn : n ≤ X.heap.size) : ∀ Y, Keeps (fun b => n ≤ b ∧ b < X.heap.size) w' Y → Bds (fun b => n ≤ b) Y v l := fun Y hk =>
  (h.keep hk (fun b _ h1 h2 => by omega)).mono (fun b _ h => by omega)
set_option maxRecDepth 100000 in
set_option maxHeartbeats 4000000 in
theorem arrive_any (m : WM) (p : Nat) (f : Fr) (ad : Option Addr) (cd : Nat) (K D K2 : Nat → Prop) (w : World) (hw : WRx K D w p m) (hK : ∀ b, w.heap.size ≤ b → K b ∧ D b) (hs : Sl K2 w (.slice ad f.b.length cd) (u8s f.b)) (B : Int) (hr : m.r.ok B) (hB : B ≤ 1000000000) (hf : f.ok) (hg : m.gt.length ≤ 100000) :
    Calls Tryd.prog 51 #[.pointer (some ⟨p, 0, none⟩), .agg #[.int .i64 f.q, .int .i64 f.k, .bool f.u, .slice ad f.b.length cd, .int .u64 (f.t : Int)]] w fun e w' => e = .returned (.int .i64 (recvM m.r f).2.2) ∧ WRx K D w' p (arriveM m f) ∧ Keeps K w w' := by
  obtain ⟨sa, sc, aa, ac, fa, fc, ra, rc, ga, gc, hw⟩ := hw
  have HW := hid hw
  have HKF := hid hK
  have HML := hid (WR.lt hw)
  have HSX := hid (hs.mono (K' := fun b => b < w.heap.size) (fun b h _ => h))
  have HOK := hid hr; have HFO := hid hf
  have hpl := blk_lt hw.blk
  have hps := hid hw
  clear hw hs hr hf hK
  obtain ⟨M2, hM2⟩ : ∃ x, recvM m.r f = x := ⟨_, rfl⟩
  have HM2 := hid hM2
  have HGL : Hd (M2.2.1.length ≤ 20) := hid (by rw [← hM2]; exact recvM_got HOK.out)
  unfold arriveM
  rw [hM2]
  clear hM2 hps
  obtain ⟨⟨nx2, fs2, lk2, ⟨rk2, ri2⟩⟩, bds, er⟩ := M2
  obtain ⟨S, ⟨nx, fs, lk, ⟨rk, ri⟩⟩, FSq, RP, GT⟩ := m
  obtain ⟨i0, hi, hz0, hz1, hz2⟩ := bd_parts
  simp only [] at *
  obtain ⟨fl, hfl⟩ : ∃ n, f.b.length = n := ⟨_, rfl⟩
  have HFL := hid hfl
  rw [hfl] at HSX ⊢
  clear hfl
  have HBP := hid HW.out.blk
  have HAH := hid HW.out.ah
  simp only [] at HBP HAH
  obtain ⟨fn, hfn⟩ : ∃ n, fs.length = n := ⟨_, rfl⟩
  have HFN := hid hfn
  rw [hfn] at HBP HAH
  clear hfn
  obtain ⟨gn, hgn⟩ : ∃ n, GT.length = n := ⟨_, rfl⟩
  have HGN := hid hgn
  rw [hgn] at HBP hg
  clear hgn
  obtain ⟨sn, hsn⟩ : ∃ n, S.bs.length = n := ⟨_, rfl⟩
  rw [hsn] at HBP
  have HSN := hid hsn
  clear hsn
  obtain ⟨f2n, hf2n⟩ : ∃ n, FSq.length = n := ⟨_, rfl⟩
  rw [hf2n] at HBP
  have HF2N := hid hf2n
  clear hf2n
  obtain ⟨rpn, hrpn⟩ : ∃ n, RP.length = n := ⟨_, rfl⟩
  rw [hrpn] at HBP
  have HRPN := hid hrpn
  clear hrpn
  obtain ⟨fn2, hfn2⟩ : ∃ n, fs2.length = n := ⟨_, rfl⟩
  have HFN2 := hid hfn2
  clear hfn2
  obtain ⟨bn, hbn⟩ : ∃ n, bds.length = n := ⟨_, rfl⟩
  have HBN := hid hbn
  have hbn20 : bn ≤ 20 := by rw [← hbn]; exact HGL.out
  clear hbn
  have HRC : Hd (∀ X, Keeps (fun _ => False) w X → Calls Tryd.prog 24 #[.agg #[.int .i64 nx, .slice aa fn ac, .bool lk, .int .u64 (rk : Int), .int .i64 ri], .agg #[.int .i64 f.q, .int .i64 f.k, .bool f.u, .slice ad fl cd, .int .u64 (f.t : Int)]] X fun e w' => ∃ a2 c2 a3 c3, e = .returned (.tuple #[.agg #[.int .i64 nx2, .slice a2 fn2 c2, .bool lk2, .int .u64 (rk2 : Int), .int .i64 ri2], .slice a3 bn c3, .int .i64 er]) ∧
      Frs (fun b => ((D b ∧ ¬ Mine p fa ra ga b) ∧ b < w.heap.size) ∨ X.heap.size ≤ b) w' (.slice a2 fn2 c2) fs2 ∧ Bds (fun b => X.heap.size ≤ b) w' (.slice a3 bn c3) bds ∧ Keeps (fun _ => False) X w') := hid (fun X hx => by
    have h := Receive_any nx fs aa ac lk ⟨rk, ri⟩ f (fun b => (D b ∧ ¬ Mine p fa ra ga b) ∧ b < w.heap.size) ad cd X (by rw [HFN.out]; exact (HAH.out.mono (fun b hb h => (⟨h, hb⟩ : (D b ∧ ¬ Mine p fa ra ga b) ∧ b < w.heap.size))).keep hx (fun _ _ _ h => h)) (fun b h => Nat.lt_of_lt_of_le h.2 hx.size) (by rw [HFL.out]; exact (HSX.out.keep hx (fun _ _ _ h => h)).mono (fun _ _ _ => trivial)) _ HOK.out hB HFO.out
    rw [HM2.out] at h
    unfold RecvR at h
    simp only [HFN.out, HFL.out, HFN2.out, HBN.out] at h
    exact h)
  go_enter Tryd.func51, Tryd.ntmps51
  go_upto_region 1 with fail
  generalize hW : World.alloc w _ = W1
  have KS : Hd (Keeps (fun _ => False) w W1) := hid (by rw [← hW]; exact (Keeps.alloc (Keeps.refl (fun _ => False) w) _))
  have HBP' : Hd (Blk W1 p #[(.slice sa sn sc), (.int .i64 S.a), (.int .u64 (S.l.k : Int)), (.int .i64 S.l.i), (.int .i64 nx), (.slice aa fn ac), (.bool lk), (.int .u64 (rk : Int)), (.int .i64 ri), (.slice fa f2n fc), (.slice ra rpn rc), (.slice ga gn gc)] 60) := hid (by rw [← hW]; exact (blk_alloc HBP.out _))
  have HW' : Hd (WR K D W1 p ⟨S, ⟨nx, fs, lk, ⟨rk, ri⟩⟩, FSq, RP, GT⟩ sa sc aa ac fa fc ra rc ga gc) := hid (HW.out.keep KS.out (fun _ _ _ h => h))
  have HSX' : Hd (Sl (fun b => b < w.heap.size) W1 (.slice ad fl cd) (u8s f.b)) := hid (HSX.out.keep KS.out (fun _ _ _ h => h))
  have BF : Hd (Blk W1 w.heap.size #[(.int .i64 f.q), (.int .i64 f.k), (.bool f.u), (.slice ad fl cd), (.int .u64 (f.t : Int))] 25) := hid (by rw [← hW]; exact (blk_new _ _ _))
  clear HBP HW HSX
  have HBP := HBP'
  clear HBP'
  have HW := HW'
  clear HW'
  have HSX := HSX'
  clear HSX'
  have HK : Hd (Keeps (fun _ => False) w W1) := hid KS.out
  have z_W1 : w.heap.size + 1 ≤ W1.heap.size := by rw [← hW]; simp
  clear hW KS
  have HRC2 : Hd (∀ X, Keeps (fun _ => False) W1 X → Calls Tryd.prog 24 #[.agg #[.int .i64 nx, .slice aa fn ac, .bool lk, .int .u64 (rk : Int), .int .i64 ri], .agg #[.int .i64 f.q, .int .i64 f.k, .bool f.u, .slice ad fl cd, .int .u64 (f.t : Int)]] X fun e w' => ∃ a2 c2 a3 c3, e = .returned (.tuple #[.agg #[.int .i64 nx2, .slice a2 fn2 c2, .bool lk2, .int .u64 (rk2 : Int), .int .i64 ri2], .slice a3 bn c3, .int .i64 er]) ∧ Frs (fun b => ((D b ∧ ¬ Mine p fa ra ga b) ∧ b < w.heap.size) ∨ X.heap.size ≤ b) w' (.slice a2 fn2 c2) fs2 ∧ Bds (fun b => X.heap.size ≤ b) w' (.slice a3 bn c3) bds ∧ Keeps (fun _ => False) X w') := hid (fun X hx => HRC.out X (HK.out.trans hx))
  clear HRC
  go_cut [7, 6, 5] from 9 to 23 (fun u7 u6 u5 wx => ∃ (a2 : Option Addr), ∃ (c2 : Nat), ∃ (a3 : Option Addr), ∃ (c3 : Nat), u7 = (.int .i64 er) ∧ u6 = (.slice a3 bn c3) ∧ ∃ bx, u5 = .pointer (some ⟨bx, 0, none⟩) ∧ W1.heap.size ≤ bx ∧ Hd (Blk wx bx #[(.int .i64 nx2), (.slice a2 fn2 c2), (.bool lk2), (.int .u64 (rk2 : Int)), (.int .i64 ri2)] 35) ∧ Hd (Frs (fun b => ((D b ∧ ¬ Mine p fa ra ga b) ∧ b < w.heap.size) ∨ W1.heap.size ≤ b) wx (.slice a2 fn2 c2) fs2) ∧ Hd (Bds (fun b => W1.heap.size ≤ b) wx (.slice a3 bn c3) bds) ∧ Hd (Keeps (fun _ => False) W1 wx))
  case first =>
    have KC : Hd (Keeps (fun _ => False) W1 W1) := hid (Keeps.refl _ _)
    have HSS : Hd (∀ w', Keeps (fun _ => False) W1 w' → (w'.cell? ⟨p, 4, none⟩ = some ((.int .i64 nx)) ∧ w'.cell? ⟨p, 5, none⟩ = some ((.slice aa fn ac)) ∧ w'.cell? ⟨p, 6, none⟩ = some ((.bool lk)) ∧ w'.cell? ⟨p, 7, none⟩ = some ((.int .u64 (rk : Int))) ∧ w'.cell? ⟨p, 8, none⟩ = some ((.int .i64 ri)) ∧ w'.cell? ⟨w.heap.size, 0, none⟩ = some ((.int .i64 f.q)) ∧ w'.cell? ⟨w.heap.size, 1, none⟩ = some ((.int .i64 f.k)) ∧ w'.cell? ⟨w.heap.size, 2, none⟩ = some ((.bool f.u)) ∧ w'.cell? ⟨w.heap.size, 3, none⟩ = some ((.slice ad fl cd)) ∧ w'.cell? ⟨w.heap.size, 4, none⟩ = some ((.int .u64 (f.t : Int))))) := hid (fun w' hk => ⟨blk_cell (blk_keep HBP.out hk (fun h => h)) 4, blk_cell (blk_keep HBP.out hk (fun h => h)) 5, blk_cell (blk_keep HBP.out hk (fun h => h)) 6, blk_cell (blk_keep HBP.out hk (fun h => h)) 7, blk_cell (blk_keep HBP.out hk (fun h => h)) 8, blk_cell (blk_keep BF.out hk (fun h => h)) 0, blk_cell (blk_keep BF.out hk (fun h => h)) 1, blk_cell (blk_keep BF.out hk (fun h => h)) 2, blk_cell (blk_keep BF.out hk (fun h => h)) 3, blk_cell (blk_keep BF.out hk (fun h => h)) 4⟩)
    go_region_held (fun w' => w'.cell? ⟨p, 4, none⟩ = some ((.int .i64 nx)) ∧ w'.cell? ⟨p, 5, none⟩ = some ((.slice aa fn ac)) ∧ w'.cell? ⟨p, 6, none⟩ = some ((.bool lk)) ∧ w'.cell? ⟨p, 7, none⟩ = some ((.int .u64 (rk : Int))) ∧ w'.cell? ⟨p, 8, none⟩ = some ((.int .i64 ri)) ∧ w'.cell? ⟨w.heap.size, 0, none⟩ = some ((.int .i64 f.q)) ∧ w'.cell? ⟨w.heap.size, 1, none⟩ = some ((.int .i64 f.k)) ∧ w'.cell? ⟨w.heap.size, 2, none⟩ = some ((.bool f.u)) ∧ w'.cell? ⟨w.heap.size, 3, none⟩ = some ((.slice ad fl cd)) ∧ w'.cell? ⟨w.heap.size, 4, none⟩ = some ((.int .u64 (f.t : Int)))) (exact HSS.out _ (by repeat (first | (with_reducible refine Keeps.setCell (S := fun _ => False) ?_ (.inl (by first | (with_reducible rfl) | (simp <;> fail) | fail)) _) | (with_reducible apply Keeps.drewN) | (with_reducible apply Keeps.drew) | (with_reducible apply Keeps.alloc) | (refine Keeps.setCell (S := fun _ => False) ?_ (.inr (by first | exact Nat.le_refl _ | omega | (simp; omega) | fail)) _) | (with_reducible exact KC.out) | (with_reducible exact Keeps.refl _ _) | (with_reducible exact KC.out.mono (fun _ _ h => h.elim)))))
      (first
      | (go_at_call 24; (refine (HRC2.out _ (by repeat (first | (with_reducible exact KC.out) | (with_reducible exact Keeps.refl _ _) | (with_reducible apply Keeps.drewN) | (with_reducible apply Keeps.drew) | (with_reducible apply Keeps.alloc)))).mono ?_); rintro e wy0 ⟨a2, c2, a3, c3, rfl, hfr, hbd, hk⟩; (try (replace LNB := hid (Keeps.trans (S := fun _ => False) (by repeat (first | (with_reducible exact LNB.out) | (with_reducible exact Keeps.refl _ _) | (with_reducible apply Keeps.drewN) | (with_reducible apply Keeps.drew) | (with_reducible apply Keeps.alloc))) hk))); (first | (have HNBX := HNB; clear HNBX) | (have HNB : Hd (∀ Vz, Keeps (fun _ => False) wy0 Vz → Blk Vz W1.heap.size #[(.int .i64 0), (.slice none 0 0), (.bool false), (.int .u64 0), (.int .i64 0)] 35) := hid (fun Vz hv => blk_keep (blk_keep (by (repeat (first | (with_reducible apply blk_drewN) | (with_reducible apply blk_drew) | (with_reducible refine blk_new' _ _ _ _ ?_) | (with_reducible apply blk_alloc))); (first | (with_reducible rfl) | (simp only [World.size_alloc, World.size_drew] <;> fail) | (simp <;> fail))) hk (fun h => h)) hv (fun h => h)); have LNB : Hd (Keeps (fun _ => False) wy0 wy0) := hid (Keeps.refl _ _); have hnbx : W1.heap.size ≤ W1.heap.size := by first | exact Nat.le_refl _ | omega | fail) | skip); (try (have nF0 := blk_cell (HNB.out _ LNB.out) 0; have nG0 := blk_free (HNB.out _ LNB.out) 0; have nF1 := blk_cell (HNB.out _ LNB.out) 1; have nG1 := blk_free (HNB.out _ LNB.out) 1; have nF2 := blk_cell (HNB.out _ LNB.out) 2; have nG2 := blk_free (HNB.out _ LNB.out) 2; have nF3 := blk_cell (HNB.out _ LNB.out) 3; have nG3 := blk_free (HNB.out _ LNB.out) 3; have nF4 := blk_cell (HNB.out _ LNB.out) 4; have nG4 := blk_free (HNB.out _ LNB.out) 4)); have KC2 : Hd (Keeps (fun _ => False) W1 wy0) := hid (Keeps.trans (S := fun _ => False) (by repeat (first | (with_reducible exact KC.out) | (with_reducible exact Keeps.refl _ _) | (with_reducible apply Keeps.drewN) | (with_reducible apply Keeps.drew) | (with_reducible apply Keeps.alloc))) hk); have zc := KC.out.size; have zk := hk.size; (try simp at zk); have HFR := hid (frs_after hfr (n := W1.heap.size) (fun b h => by have := h.2; omega) (by first | exact Nat.le_refl _ | (simp; done) | (simp; omega) | fail)); have HBD := hid (bds_after hbd (n := W1.heap.size) (by first | exact Nat.le_refl _ | (simp; done) | (simp; omega) | fail)); clear hfr hbd; replace KC := KC2; clear KC2; replace hk := hid hk))
    all_goals
      go_wp2_with fail
      go_meet
      exact ⟨a2, c2, a3, c3, rfl, rfl, _, rfl, (by first | exact Nat.le_refl _ | omega | (simp <;> fail) | (simp; omega) | fail), hid (by repeat (first | (with_reducible exact HNB.out _ LNB.out) | (with_reducible refine blkset5 (c0 := (.int .i64 0)) (c1 := (.slice none 0 0)) (c2 := (.bool false)) (c3 := (.int .u64 0)) (c4 := (.int .i64 0)) ?_) | (with_reducible refine blk_new' _ _ _ _ (by first | (with_reducible rfl) | (simp only [World.size_alloc, World.size_drew] <;> fail) | (simp <;> fail) | (simp; omega) | fail)) | (with_reducible refine blk_other ?_ (by first | omega | (simp only [World.size_alloc, World.size_drew]; omega) | fail) _ _) | (with_reducible apply blk_drewN) | (with_reducible apply blk_drew) | (with_reducible refine blk_alloc ?_ _))), hid (HFR.out _ (by repeat (first | (with_reducible exact Keeps.refl _ _) | (with_reducible apply Keeps.drewN) | (with_reducible apply Keeps.drew) | (with_reducible apply Keeps.alloc) | (refine Keeps.setCell ?_ (by first | exact .inr (Nat.le_refl _) | exact .inr (by simp; omega) | exact .inl ⟨by first | exact Nat.le_refl _ | omega | (simp; omega) | fail, by first | omega | (simp <;> fail) | (simp; omega) | fail⟩ | fail) _)))), hid (HBD.out _ (by repeat (first | (with_reducible exact Keeps.refl _ _) | (with_reducible apply Keeps.drewN) | (with_reducible apply Keeps.drew) | (with_reducible apply Keeps.alloc) | (refine Keeps.setCell ?_ (by first | exact .inr (Nat.le_refl _) | exact .inr (by simp; omega) | exact .inl ⟨by first | exact Nat.le_refl _ | omega | (simp; omega) | fail, by first | omega | (simp <;> fail) | (simp; omega) | fail⟩ | fail) _)))), hid (by repeat (first | (with_reducible refine Keeps.setCell (S := fun _ => False) ?_ (.inl (by first | (with_reducible rfl) | (simp <;> fail) | fail)) _) | (with_reducible apply Keeps.drewN) | (with_reducible apply Keeps.drew) | (with_reducible apply Keeps.alloc) | (refine Keeps.setCell (S := fun _ => False) ?_ (.inr (by first | exact Nat.le_refl _ | omega | (simp; omega) | fail)) _) | (with_reducible exact KC.out) | (with_reducible exact Keeps.refl _ _) | (with_reducible exact KC.out.mono (fun _ _ h => h.elim))))⟩
  case rest =>
    obtain ⟨a2, c2, a3, c3, rfl, rfl, b_R, rfl, hb_R, B_R, M_0, M_1, hk⟩ := hcut
    replace hk := hk.out
    generalize wc = W2 at *
    have HBP' : Hd (Blk W2 p #[(.slice sa sn sc), (.int .i64 S.a), (.int .u64 (S.l.k : Int)), (.int .i64 S.l.i), (.int .i64 nx), (.slice aa fn ac), (.bool lk), (.int .u64 (rk : Int)), (.int .i64 ri), (.slice fa f2n fc), (.slice ra rpn rc), (.slice ga gn gc)] 60) := hid (blk_keep HBP.out hk (fun h => by exact h))
    have HW' : Hd (WR K D W2 p ⟨S, ⟨nx, fs, lk, ⟨rk, ri⟩⟩, FSq, RP, GT⟩ sa sc aa ac fa fc ra rc ga gc) := hid (HW.out.keep hk (fun _ _ _ h => h))
    have HSX' : Hd (Sl (fun b => b < w.heap.size) W2 (.slice ad fl cd) (u8s f.b)) := hid (HSX.out.keep hk (fun _ _ _ h => h))
    have BF' : Hd (Blk W2 w.heap.size #[(.int .i64 f.q), (.int .i64 f.k), (.bool f.u), (.slice ad fl cd), (.int .u64 (f.t : Int))] 25) := hid (blk_keep BF.out hk (fun h => by exact h))
    clear HBP HW HSX BF
    have HBP := HBP'
    clear HBP'
    have HW := HW'
    clear HW'
    have HSX := HSX'
    clear HSX'
    have BF := BF'
    clear BF'
    have HK' : Hd (Keeps (fun _ => False) w W2) := hid (HK.out.trans hk)
    clear HK
    have HK := HK'
    clear HK'
    have z_W2 := hk.size
    clear hk
    have lt_R := blk_lt B_R.out
    clear HRC2
    have zp := blk_lt HBP.out
    have nePR : b_R ≠ p := by omega
    have nePF : p ≠ w.heap.size := by omega
    have o_HBP_0 : W2.cell? ⟨p, 0, none⟩ = some ((.slice sa sn sc)) := blk_cell HBP.out 0
    have o_HBP_1 : W2.cell? ⟨p, 1, none⟩ = some ((.int .i64 S.a)) := blk_cell HBP.out 1
    have o_HBP_2 : W2.cell? ⟨p, 2, none⟩ = some ((.int .u64 (S.l.k : Int))) := blk_cell HBP.out 2
    have o_HBP_3 : W2.cell? ⟨p, 3, none⟩ = some ((.int .i64 S.l.i)) := blk_cell HBP.out 3
    have o_HBP_4 : W2.cell? ⟨p, 4, none⟩ = some ((.int .i64 nx)) := blk_cell HBP.out 4
    have o_HBP_5 : W2.cell? ⟨p, 5, none⟩ = some ((.slice aa fn ac)) := blk_cell HBP.out 5
    have o_HBP_6 : W2.cell? ⟨p, 6, none⟩ = some ((.bool lk)) := blk_cell HBP.out 6
    have o_HBP_7 : W2.cell? ⟨p, 7, none⟩ = some ((.int .u64 (rk : Int))) := blk_cell HBP.out 7
    have o_HBP_8 : W2.cell? ⟨p, 8, none⟩ = some ((.int .i64 ri)) := blk_cell HBP.out 8
    have o_HBP_9 : W2.cell? ⟨p, 9, none⟩ = some ((.slice fa f2n fc)) := blk_cell HBP.out 9
    have o_HBP_10 : W2.cell? ⟨p, 10, none⟩ = some ((.slice ra rpn rc)) := blk_cell HBP.out 10
    have o_HBP_11 : W2.cell? ⟨p, 11, none⟩ = some ((.slice ga gn gc)) := blk_cell HBP.out 11
    have f_HBP_0 : W2.frozen? ⟨p, 0, none⟩ = false := blk_free HBP.out 0
    have f_HBP_1 : W2.frozen? ⟨p, 1, none⟩ = false := blk_free HBP.out 1
    have f_HBP_2 : W2.frozen? ⟨p, 2, none⟩ = false := blk_free HBP.out 2
    have f_HBP_3 : W2.frozen? ⟨p, 3, none⟩ = false := blk_free HBP.out 3
    have f_HBP_4 : W2.frozen? ⟨p, 4, none⟩ = false := blk_free HBP.out 4
    have f_HBP_5 : W2.frozen? ⟨p, 5, none⟩ = false := blk_free HBP.out 5
    have f_HBP_6 : W2.frozen? ⟨p, 6, none⟩ = false := blk_free HBP.out 6
    have f_HBP_7 : W2.frozen? ⟨p, 7, none⟩ = false := blk_free HBP.out 7
    have f_HBP_8 : W2.frozen? ⟨p, 8, none⟩ = false := blk_free HBP.out 8
    have f_HBP_9 : W2.frozen? ⟨p, 9, none⟩ = false := blk_free HBP.out 9
    have f_HBP_10 : W2.frozen? ⟨p, 10, none⟩ = false := blk_free HBP.out 10
    have f_HBP_11 : W2.frozen? ⟨p, 11, none⟩ = false := blk_free HBP.out 11
    have o_B_R_0 : W2.cell? ⟨b_R, 0, none⟩ = some ((.int .i64 nx2)) := blk_cell B_R.out 0
    have o_B_R_1 : W2.cell? ⟨b_R, 1, none⟩ = some ((.slice a2 fn2 c2)) := blk_cell B_R.out 1
    have o_B_R_2 : W2.cell? ⟨b_R, 2, none⟩ = some ((.bool lk2)) := blk_cell B_R.out 2
    have o_B_R_3 : W2.cell? ⟨b_R, 3, none⟩ = some ((.int .u64 (rk2 : Int))) := blk_cell B_R.out 3
    have o_B_R_4 : W2.cell? ⟨b_R, 4, none⟩ = some ((.int .i64 ri2)) := blk_cell B_R.out 4
    go_upto_region 3 with fail
    clear o_HBP_0 o_HBP_1 o_HBP_2 o_HBP_3 o_HBP_4 o_HBP_5 o_HBP_6 o_HBP_7 o_HBP_8 o_HBP_9 o_HBP_10 o_HBP_11 f_HBP_0 f_HBP_1 f_HBP_2 f_HBP_3 f_HBP_4 f_HBP_5 f_HBP_6 f_HBP_7 f_HBP_8 f_HBP_9 f_HBP_10 f_HBP_11 o_B_R_0 o_B_R_1 o_B_R_2 o_B_R_3 o_B_R_4
    generalize hW : World.setCell (World.setCell (World.setCell (World.setCell (World.setCell W2 _ _) _ _) _ _) _ _) _ _ = W3
    have HS3 : Hd (WR K D W3 p ⟨S, ⟨nx2, fs2, lk2, ⟨rk2, ri2⟩⟩, FSq, RP, GT⟩ sa sc a2 c2 fa fc ra rc ga gc) := hid (by
      have h := HW.out.setR (r := ⟨nx2, fs2, lk2, ⟨rk2, ri2⟩⟩) (aa2 := a2) (ac2 := c2) (by rw [HFN2.out]; exact M_0.out.mono (fun b _ h => by rcases h with h | h; exact h.1; exact ⟨(HKF.out b (by omega)).2, fun e => by have := HML.out b e; omega⟩))
      simp only [HFN2.out] at h
      rw [← hW]; exact h)
    have k3 : Keeps (fun b => b = p) W2 W3 := by rw [← hW]; exact keep5' _ _ _ _ _ _ _ _ _ _ _ _
    have HB3 : Hd (Bds (fun b => W1.heap.size ≤ b) W3 (.slice a3 bn c3) bds) := hid (M_1.out.keep k3 (fun b _ h1 h2 => by omega))
    have HK3 : Hd (Keeps K w W3) := hid ((HK.out.mono (T := K) (fun _ _ h => h.elim)).trans' k3 (fun i hi h => by rw [h]; exact HW.out.k p (.inl rfl)))
    have z3 : W2.heap.size ≤ W3.heap.size := k3.size
    clear hW k3 M_0 M_1 HK HBP HW HAH HSX BF B_R
    have HB4 := hid HS3.out.blk
    simp only [] at HB4
    rw [HGN.out] at HB4
    have c11 : W3.cell? ⟨p, 11, none⟩ = some (.slice ga gn gc) := blk_cell HB4.out 11
    have f11 : W3.frozen? ⟨p, 11, none⟩ = false := blk_free HB4.out 11
    obtain ⟨xs, hO, hX⟩ := HS3.out.gt
    simp only [] at hO hX
    rw [HGN.out] at hO
    have HO := hid hO; have HX := hid hX
    clear hO hX
    obtain ⟨ys, hY, hYB⟩ := HB3.out
    rw [HBN.out] at hY
    have HY := hid hY; have HYB := hid hYB
    clear hY hYB
    have HGP : Hd (∀ b, (Value.slice ga gn gc).ownBlock = some b → b ≠ p) := hid (fun b hb => by rw [ownB] at hb; exact HS3.out.d3 b hb)
    go_wp2_with (at_builtin; refine wpList_append_row rfl _ _ 43 rfl 22 i0 (.slice none 0 0) 1 24 Tryd.underlying43 hi hz0 hz1 hz2 rfl (by decide) _ (fun b => W1.heap.size ≤ b) _ _ _ _ rfl HO.out bn _ rfl HY.out (HYB.out.ones) ?h1 ?h2 ?_)
    case h1 => simp [maxLen]; omega
    case h2 => omega
    intro a7 c7 W4 hown hgrow; try intro _
    have d11 : W4.cell? ⟨p, 11, none⟩ = some (.slice ga gn gc) := keep_cell hgrow (fun h => HGP.out _ h rfl) c11
    have e11 : W4.frozen? ⟨p, 11, none⟩ = false := keep_free hgrow (fun h => HGP.out _ h rfl) c11 f11
    have HOWN := hid hown; have HGROW := hid hgrow
    clear hown hgrow c11 f11
    go_wp2
    go_ret
    have h := HS3.out.gotApp (fun b hb => (HKF.out b (by omega)).1) HX.out (ys := ys) (ds := bds) (HYB.out.mono (fun b _ h => ⟨(HKF.out b (by omega)).2, fun e => by have := HML.out b e; omega⟩)) (w7 := W4) (a7 := a7) (c7 := c7) (by simp only [HGN.out, HBN.out]; exact HOWN.out) (by simp only [HGN.out]; exact HGROW.out)
    simp only [HGN.out, HBN.out] at h
    refine ⟨rfl, ⟨_, _, _, _, _, _, _, _, _, _, h⟩, (HK3.out.trans' HGROW.out (fun i hi h => ?_)).setCell (.inl (HS3.out.k p (.inl rfl))) _⟩
    rw [ownB] at h; exact HS3.out.k i (.inr (.inr (.inr h)))
end Go.Proofs.YthoikljmokkchaaDoor
