/- Frame: signed, the frames of the histories. -/
import Derived.Test.YthoikljmokkchaaDoorFrMid
import Derived.Test.YthoikljmokkchaaDoorFrU
import Derived.Test.YthoikljmokkchaaDoorOpenF
import Derived.Deep.DrawnRows
namespace Go.Proofs.YthoikljmokkchaaDoor
open Go.RowKit
attribute [local go_sem ↓] Go.wp_at_zero Go.wp_at_succ
def advL (l : Ld) (n : Nat) : Ld := ⟨iterN n l.k, l.i + (n : Int)⟩
theorem advL_ok {l : Ld} (h : l.ok) {n : Nat} (hn : l.i + n ≤ 1000000000000) : (advL l n).ok := ⟨iterN_lt h.k _, by have := h.i0; show 0 ≤ l.i + _; omega, hn⟩
def actF (l : Ld) (a : AC) : Fr := ⟨a.n, l.i, decide (around a.m 8 = 7), a.b, 0⟩
def sgnF (l : Ld) (a : AC) : Fr := signF (advL l (around a.m 3).toNat) (actF (advL l (around a.m 3).toNat) a)
def sgnL (l : Ld) (a : AC) : Ld := nextL (advL l (around a.m 3).toNat)
theorem around_K (n m : Int) (w : World) (h0 : -9223372036854775808 ≤ n) (h1 : n ≤ 9223372036854775807) (h2 : 1 ≤ m) (h3 : m ≤ 1000000000000000) : Calls Tryd.prog 22 #[.int .i64 n, .int .i64 m] w fun e w' => e = .returned (.int .i64 (around n m)) ∧ Keeps (fun _ => False) w w' :=
  (Around_any n m w h0 h1 h2 h3).mono (fun e w' h => ⟨h.1, by rw [← h.2]; exact Keeps.refl _ _⟩)
def SgnR (w : World) (f : Fr) (l : Ld) (a : Option Addr) (c : Nat) (e : Ending) (w' : World) : Prop := e = .returned (.tuple #[.agg #[.int .i64 f.q, .int .i64 f.k, .bool f.u, .slice a f.b.length c, .int .u64 (f.t : Int)], .agg #[.int .u64 (l.k : Int), .int .i64 l.i]]) ∧ Keeps (fun _ => False) w w'
set_option maxRecDepth 100000 in
set_option maxHeartbeats 4000000 in
theorem signed_any (l : Ld) (x : AC) (K : Nat → Prop) (a : Option Addr) (c : Nat) (w : World) (hl : l.ok) (hi : l.i ≤ 1000000) (hx : AcOk x) (hb : x.b.length ≤ 140737488351232) (hs : Sl K w (.slice a x.b.length c) (u8s x.b)) :
    Calls Tryd.prog 23 #[.agg #[.int .u64 (l.k : Int), .int .i64 l.i], .agg #[.int .i64 x.kd, .int .i64 x.n, .int .i64 x.m, .slice a x.b.length c]] w fun e w' => SgnR w (sgnF l x) (sgnL l x) a c e w' := by
  have HS := hid (hs.mono (K' := fun b => b < w.heap.size) (fun b h _ => h))
  have HX := hid hx
  have HLO := hid hl
  have hi0 := hl.i0
  obtain ⟨r, hr⟩ : ∃ r, (around x.m 3).toNat = r := ⟨_, rfl⟩
  have hrb := around_b x.m (show (1 : Int) ≤ 3 by omega)
  have hre : around x.m 3 = (r : Int) := by omega
  have hr3 : r ≤ 2 := by omega
  obtain ⟨u, hu⟩ : ∃ u, decide (around x.m 8 = 7) = u := ⟨_, rfl⟩
  obtain ⟨F, hF⟩ : ∃ F, sgnF l x = F := ⟨_, rfl⟩
  obtain ⟨L2, hL2⟩ : ∃ L, sgnL l x = L := ⟨_, rfl⟩
  rw [hF, hL2]
  have HSL : Hd (L2 = nextL (advL l r)) := hid (by rw [← hL2]; unfold sgnL; rw [hr])
  have HSF : Hd (F = signF (advL l r) ⟨x.n, (advL l r).i, u, x.b, 0⟩) := hid (by rw [← hF]; unfold sgnF actF; rw [hr, hu])
  clear hF hL2
  have HLR : Hd (advL l r).ok := hid (advL_ok hl (by omega))
  have HFO : Hd (⟨x.n, l.i + (r : Int), u, x.b, 0⟩ : Fr).ok := hid ⟨hx.n.1, hx.n.2, by show _ ≤ l.i + (r : Int); omega, by show l.i + (r : Int) ≤ _; omega, hx.b, by show 0 < _; omega, hb⟩
  have HU := hid hu; have HRE := hid hre
  obtain ⟨k, i⟩ := l
  simp only [] at hi hi0
  clear hs hx hl hr hrb hre hu
  obtain ⟨m, hmm⟩ : ∃ m, x.b.length = m := ⟨_, rfl⟩
  have HM := hid hmm
  rw [hmm] at HS hb ⊢
  clear hmm
  go_enter Tryd.func23, Tryd.ntmps23
  go_upto_region 1 with fail
  generalize hW : World.alloc (World.alloc (World.alloc (World.alloc w _) _) _) _ = W1
  have KS : Hd (Keeps (fun _ => False) w W1) := hid (by rw [← hW]; exact (Keeps.alloc (Keeps.alloc (Keeps.alloc (Keeps.alloc (Keeps.refl (fun _ => False) w) _) _) _) _))
  have HS' : Hd (Sl (fun b => b < w.heap.size) W1 (.slice a m c) (u8s x.b)) := hid (HS.out.keep KS.out (fun _ _ _ h => h))
  have BL : Hd (Blk W1 w.heap.size #[(.int .u64 (k : Int)), (.int .i64 i)] 33) := hid (by rw [← hW]; exact (blk_alloc (blk_alloc (blk_alloc (blk_new _ _ _) _) _) _))
  have BA : Hd (Blk W1 (w.heap.size + 1) #[(.int .i64 x.kd), (.int .i64 x.n), (.int .i64 x.m), (.slice a m c)] 39) := hid (by rw [← hW]; exact (blk_alloc (blk_alloc (blk_new' _ _ _ _ (by simp)) _) _))
  have BR1 : Hd (Blk W1 (w.heap.size + 1 + 1) #[(.int .i64 0), (.int .i64 0), (.bool false), (.slice none 0 0), (.int .u64 0)] 25) := hid (by rw [← hW]; exact (blk_alloc (blk_new' _ _ _ _ (by simp)) _))
  have BR2 : Hd (Blk W1 (w.heap.size + 1 + 1 + 1) #[(.int .u64 0), (.int .i64 0)] 33) := hid (by rw [← hW]; exact (blk_new' _ _ _ _ (by simp)))
  clear HS
  have HS := HS'
  clear HS'
  have HK : Hd (Keeps (fun _ => False) w W1) := hid KS.out
  have z_W1 : w.heap.size + 4 ≤ W1.heap.size := by rw [← hW]; simp
  clear hW KS
  generalize hb_BR2 : w.heap.size + 1 + 1 + 1 = b_BR2 at *
  generalize hb_BR1 : w.heap.size + 1 + 1 = b_BR1 at *
  generalize hb_BA : w.heap.size + 1 = b_BA at *
  have lB : w.heap.size < b_BA ∧ b_BA < b_BR1 ∧ b_BR1 < b_BR2 ∧ b_BR2 < W1.heap.size := by omega
  go_wp2_with fail
  go_loopw [6] (fun iv wr => ∃ j : Nat, iv = .int .i64 (j : Int) ∧ j ≤ r ∧ Hd (Blk wr w.heap.size #[.int .u64 ((iterN j k : Nat) : Int), .int .i64 (i + (j : Int))] 33) ∧ Hd (Keeps (fun b => b = w.heap.size) W1 wr)) (fun iv _ => r - (intOf iv).toNat)
  case atStart => exact ⟨0, rfl, Nat.zero_le _, hid (by simpa [iterN] using BL.out), hid (Keeps.refl _ _)⟩
  case round =>
    obtain ⟨V, rfl⟩ : ∃ V, V = wr := ⟨_, rfl⟩
    obtain ⟨j, rfl, hj, HB, HX2⟩ := hrel
    have zV := HX2.out.size
    clear BL
    have BA2 := hid (blk_keep BA.out HX2.out (fun h => by omega))
    have BR12 := hid (blk_keep BR1.out HX2.out (fun h => by omega))
    have BR22 := hid (blk_keep BR2.out HX2.out (fun h => by omega))
    have HS2 := hid (HS.out.keep HX2.out (fun b _ h1 h2 => by omega))
    have HK2 : Hd (Keeps (fun _ => False) w V) := hid (HK.out.trans' HX2.out (fun b hb h => by omega))
    clear BA BR1 BR2 HS HK
    have BA := BA2; have BR1 := BR12; have BR2 := BR22; have HS := HS2; have HK := HK2
    clear BA2 BR12 BR22 HS2 HK2
    have HIL := hid (iterN_lt HLO.out.k j)
    obtain ⟨kj, hkj⟩ : ∃ kj, iterN j k = kj := ⟨_, rfl⟩
    have HKJ := hid hkj
    rw [hkj] at HB HIL
    clear hkj
    have hij : 0 ≤ i + (j : Int) ∧ i + (j : Int) ≤ 1000002 := by omega
    obtain ⟨ij, hije⟩ : ∃ ij, i + (j : Int) = ij := ⟨_, rfl⟩
    have HIJ := hid hije
    rw [hije] at HB hij
    clear hije
    have HAR : Hd (∀ X, Calls Tryd.prog 22 #[.int .i64 x.m, .int .i64 3] X fun e w' => e = .returned (.int .i64 (r : Int)) ∧ X = w') := hid (fun X => by have h := Around_any x.m 3 X HX.out.m.1 HX.out.m.2 (by omega) (by omega); rw [HRE.out] at h; exact h)
    have o_BA_2 : V.cell? ⟨b_BA, 2, none⟩ = some ((.int .i64 x.m)) := blk_cell BA.out 2
    go_wp2_with fail
    refine (HAR.out _).mono ?_
    rintro e wx ⟨rfl, rfl⟩
    by_cases hlt : j < r
    · have q1 : (j : Int) < r := by omega
      clear o_BA_2
      have o_HB_0 : V.cell? ⟨w.heap.size, 0, none⟩ = some ((.int .u64 (kj : Int))) := blk_cell HB.out 0
      have o_HB_1 : V.cell? ⟨w.heap.size, 1, none⟩ = some ((.int .i64 ij)) := blk_cell HB.out 1
      go_wp2_with fail
      refine (LSign_any ⟨kj, ij⟩ (fun _ => True) (.slice none 0 0) [] _ ⟨HIL.out, hij.1, by show ij ≤ _; omega⟩ (Sl.nil _ _) (by simp) (by simp)).mono ?_
      rintro e V1 ⟨rfl, hk⟩
      simp only []
      obtain ⟨tg, htg⟩ : ∃ t, tagN kj [] = t := ⟨_, rfl⟩
      rw [htg]
      clear htg
      have HST : Hd (iterN (j + 1) k = stepN kj) := hid (by rw [← HKJ.out]; rfl)
      obtain ⟨sj, hsj⟩ : ∃ s, stepN kj = s := ⟨_, rfl⟩
      rw [hsj] at HST ⊢
      clear hsj
      have HX3 : Hd (Keeps (fun b => b = w.heap.size) W1 V1) := hid (HX2.out.trans' hk (fun _ _ h => h.elim))
      clear o_HB_0 o_HB_1
      have HB' : Hd (Blk V1 w.heap.size #[(.int .u64 (kj : Int)), (.int .i64 ij)] 33) := hid (blk_keep HB.out hk (fun h => h))
      have BA' : Hd (Blk V1 b_BA #[(.int .i64 x.kd), (.int .i64 x.n), (.int .i64 x.m), (.slice a m c)] 39) := hid (blk_keep BA.out hk (fun h => h))
      have BR1' : Hd (Blk V1 b_BR1 #[(.int .i64 0), (.int .i64 0), (.bool false), (.slice none 0 0), (.int .u64 0)] 25) := hid (blk_keep BR1.out hk (fun h => h))
      have BR2' : Hd (Blk V1 b_BR2 #[(.int .u64 0), (.int .i64 0)] 33) := hid (blk_keep BR2.out hk (fun h => h))
      have HS' : Hd (Sl (fun b => b < w.heap.size) V1 (.slice a m c) (u8s x.b)) := hid (HS.out.keep hk (fun _ _ _ h => h))
      clear HB BA BR1 BR2 HS
      have HB := HB'
      clear HB'
      have BA := BA'
      clear BA'
      have BR1 := BR1'
      clear BR1'
      have BR2 := BR2'
      clear BR2'
      have HS := HS'
      clear HS'
      have HK' : Hd (Keeps (fun _ => False) w V1) := hid (HK.out.trans hk)
      clear HK
      have HK := HK'
      clear HK'
      have z_V1 := hk.size
      clear hk
      have o_HB_0 : V1.cell? ⟨w.heap.size, 0, none⟩ = some ((.int .u64 (kj : Int))) := blk_cell HB.out 0
      have o_HB_1 : V1.cell? ⟨w.heap.size, 1, none⟩ = some ((.int .i64 ij)) := blk_cell HB.out 1
      have f_HB_0 : V1.frozen? ⟨w.heap.size, 0, none⟩ = false := blk_free HB.out 0
      have f_HB_1 : V1.frozen? ⟨w.heap.size, 1, none⟩ = false := blk_free HB.out 1
      go_wp2
      go_roundw
      case rel =>
        refine ⟨j + 1, by first | rfl | go_num, by omega, hid ?_, hid ?_⟩
        · rw [HST.out, show i + ((j + 1 : Nat) : Int) = ij + 1 by rw [← HIJ.out]; push_cast; omega]
          have h := blk_set (blk_set HB.out 0 (.int .u64 (sj : Int))) 1 (.int .i64 (ij + 1))
          simp only [List.setIfInBounds_toArray, List.set_cons_zero, List.set_cons_succ] at h
          exact h
        · exact HX3.out.trans' (((Keeps.refl (fun b => b = w.heap.size) V1).setCell (p := ⟨w.heap.size, 0, none⟩) (.inl rfl) (.int .u64 (sj : Int))).setCell (p := ⟨w.heap.size, 1, none⟩) (.inl rfl) (.int .i64 (ij + 1))) (fun _ _ h => h)
      case measure => simp [intOf]; omega
    · have q1 : ¬ ((j : Int) < r) := by omega
      have q3 : ¬ (j < r) := by omega
      have q4 : decide (j < r) = false := decide_eq_false q3
      have q5 : decide ((j : Int) < r) = false := decide_eq_false q1
      try rw [q4]
      try rw [q5]
      have hjr : j = r := by omega
      have HAV : Hd (advL ⟨k, i⟩ r = ⟨kj, ij⟩) := hid (by unfold advL; simp only []; rw [← hjr, HKJ.out, HIJ.out])
      clear hlt hj hjr HX2 HKJ
      clear o_BA_2
      have HUI : Hd (∀ X, Calls Tryd.prog 22 #[.int .i64 x.m, .int .i64 8] X fun e w' => e = .returned (.int .i64 (around x.m 8)) ∧ Keeps (fun _ => False) X w') := hid (fun X => around_K x.m 8 X HX.out.m.1 HX.out.m.2 (by omega) (by omega))
      obtain ⟨A8, hA8⟩ : ∃ A, around x.m 8 = A := ⟨_, rfl⟩
      rw [hA8] at HUI HU
      clear hA8
      have hu1 := HU.out
      have hu2 : (A8 == 7) = u := by rw [← hu1]; rfl
      have o_BA_2 : V.cell? ⟨b_BA, 2, none⟩ = some ((.int .i64 x.m)) := blk_cell BA.out 2
      go_upto_region 5 with fail
      clear o_BA_2
      clear hu1
      go_cut [7] from 22 to 32 (fun u7 wx => ∃ bx, u7 = .pointer (some ⟨bx, 0, none⟩) ∧ V.heap.size ≤ bx ∧ Hd (Blk wx bx #[(.int .i64 x.n), (.int .i64 ij), (.bool u), (.slice a m c), (.int .u64 0)] 25) ∧ Hd (Keeps (fun _ => False) V wx))
      case first =>
        have KC : Hd (Keeps (fun _ => False) V V) := hid (Keeps.refl _ _)
        have HSS : Hd (∀ w', Keeps (fun _ => False) V w' → (w'.cell? ⟨b_BA, 0, none⟩ = some ((.int .i64 x.kd)) ∧ w'.cell? ⟨b_BA, 1, none⟩ = some ((.int .i64 x.n)) ∧ w'.cell? ⟨b_BA, 2, none⟩ = some ((.int .i64 x.m)) ∧ w'.cell? ⟨b_BA, 3, none⟩ = some ((.slice a m c)) ∧ w'.cell? ⟨w.heap.size, 0, none⟩ = some ((.int .u64 (kj : Int))) ∧ w'.cell? ⟨w.heap.size, 1, none⟩ = some ((.int .i64 ij)))) := hid (fun w' hk => ⟨blk_cell (blk_keep BA.out hk (fun h => h)) 0, blk_cell (blk_keep BA.out hk (fun h => h)) 1, blk_cell (blk_keep BA.out hk (fun h => h)) 2, blk_cell (blk_keep BA.out hk (fun h => h)) 3, blk_cell (blk_keep HB.out hk (fun h => h)) 0, blk_cell (blk_keep HB.out hk (fun h => h)) 1⟩)
        go_region_held (fun w' => w'.cell? ⟨b_BA, 0, none⟩ = some ((.int .i64 x.kd)) ∧ w'.cell? ⟨b_BA, 1, none⟩ = some ((.int .i64 x.n)) ∧ w'.cell? ⟨b_BA, 2, none⟩ = some ((.int .i64 x.m)) ∧ w'.cell? ⟨b_BA, 3, none⟩ = some ((.slice a m c)) ∧ w'.cell? ⟨w.heap.size, 0, none⟩ = some ((.int .u64 (kj : Int))) ∧ w'.cell? ⟨w.heap.size, 1, none⟩ = some ((.int .i64 ij))) (exact HSS.out _ (by repeat (first | (with_reducible refine Keeps.setCell (S := fun _ => False) ?_ (.inl (by first | (with_reducible rfl) | (simp; done))) _) | (with_reducible apply Keeps.drewN) | (with_reducible apply Keeps.drew) | (with_reducible apply Keeps.alloc) | (refine Keeps.setCell (S := fun _ => False) ?_ (.inr (by first | exact Nat.le_refl _ | omega | (simp; omega))) _) | (with_reducible exact KC.out) | (with_reducible exact Keeps.refl _ _) | (with_reducible exact KC.out.mono (fun _ _ h => h.elim)))))
          (first
          | (go_at_call 22; (refine (HUI.out _).mono ?_); rintro e wy0 ⟨rfl, hk⟩; (try (replace LNB := hid (Keeps.trans (S := fun _ => False) (by repeat (first | (with_reducible exact LNB.out) | (with_reducible exact Keeps.refl _ _) | (with_reducible apply Keeps.drewN) | (with_reducible apply Keeps.drew) | (with_reducible apply Keeps.alloc))) hk))); (first | (have HNBX := HNB; clear HNBX) | (have HNB : Hd (∀ Vz, Keeps (fun _ => False) wy0 Vz → Blk Vz V.heap.size #[(.int .i64 0), (.int .i64 0), (.bool false), (.slice none 0 0), (.int .u64 0)] 25) := hid (fun Vz hv => blk_keep (blk_keep (by (repeat (first | (with_reducible apply blk_drewN) | (with_reducible apply blk_drew) | (with_reducible refine blk_new' _ _ _ _ ?_) | (with_reducible apply blk_alloc))); (first | (with_reducible rfl) | (simp only [World.size_alloc, World.size_drew]; done) | (simp; done))) hk (fun h => h)) hv (fun h => h)); have LNB : Hd (Keeps (fun _ => False) wy0 wy0) := hid (Keeps.refl _ _); have hnbx : V.heap.size ≤ V.heap.size := by first | exact Nat.le_refl _ | omega) | skip); (try (have nF0 := blk_cell (HNB.out _ LNB.out) 0; have nG0 := blk_free (HNB.out _ LNB.out) 0; have nF1 := blk_cell (HNB.out _ LNB.out) 1; have nG1 := blk_free (HNB.out _ LNB.out) 1; have nF2 := blk_cell (HNB.out _ LNB.out) 2; have nG2 := blk_free (HNB.out _ LNB.out) 2; have nF3 := blk_cell (HNB.out _ LNB.out) 3; have nG3 := blk_free (HNB.out _ LNB.out) 3; have nF4 := blk_cell (HNB.out _ LNB.out) 4; have nG4 := blk_free (HNB.out _ LNB.out) 4)); have KC2 : Hd (Keeps (fun _ => False) V wy0) := hid (Keeps.trans (S := fun _ => False) (by repeat (first | (with_reducible exact KC.out) | (with_reducible exact Keeps.refl _ _) | (with_reducible apply Keeps.drewN) | (with_reducible apply Keeps.drew) | (with_reducible apply Keeps.alloc))) hk); have zc := KC.out.size; have zk := hk.size; (try simp at zk); replace KC := KC2; clear KC2; replace hk := hid hk))
        all_goals
          go_wp2_with fail
          go_meet
          exact ⟨_, rfl, (by first | exact Nat.le_refl _ | omega | (simp; done) | (simp; omega)), hid (by repeat (first | (with_reducible exact HNB.out _ LNB.out) | (with_reducible refine blkset5 (c0 := (.int .i64 0)) (c1 := (.int .i64 0)) (c2 := (.bool false)) (c3 := (.slice none 0 0)) (c4 := (.int .u64 0)) ?_) | (with_reducible refine blk_new' _ _ _ _ (by first | (with_reducible rfl) | (simp only [World.size_alloc, World.size_drew]; done) | (simp; done) | (simp; omega))) | (with_reducible refine blk_other ?_ (by first | omega | (simp only [World.size_alloc, World.size_drew]; omega)) _ _) | (with_reducible apply blk_drewN) | (with_reducible apply blk_drew) | (with_reducible refine blk_alloc ?_ _))), hid (by repeat (first | (with_reducible refine Keeps.setCell (S := fun _ => False) ?_ (.inl (by first | (with_reducible rfl) | (simp; done))) _) | (with_reducible apply Keeps.drewN) | (with_reducible apply Keeps.drew) | (with_reducible apply Keeps.alloc) | (refine Keeps.setCell (S := fun _ => False) ?_ (.inr (by first | exact Nat.le_refl _ | omega | (simp; omega))) _) | (with_reducible exact KC.out) | (with_reducible exact Keeps.refl _ _) | (with_reducible exact KC.out.mono (fun _ _ h => h.elim))))⟩
      case rest =>
        obtain ⟨b_F, rfl, hb_F, B_F, hk⟩ := hcut
        replace hk := hk.out
        generalize wc = W21 at *
        have HB' : Hd (Blk W21 w.heap.size #[(.int .u64 (kj : Int)), (.int .i64 ij)] 33) := hid (blk_keep HB.out hk (fun h => by exact h))
        have BA' : Hd (Blk W21 b_BA #[(.int .i64 x.kd), (.int .i64 x.n), (.int .i64 x.m), (.slice a m c)] 39) := hid (blk_keep BA.out hk (fun h => by exact h))
        have BR1' : Hd (Blk W21 b_BR1 #[(.int .i64 0), (.int .i64 0), (.bool false), (.slice none 0 0), (.int .u64 0)] 25) := hid (blk_keep BR1.out hk (fun h => by exact h))
        have BR2' : Hd (Blk W21 b_BR2 #[(.int .u64 0), (.int .i64 0)] 33) := hid (blk_keep BR2.out hk (fun h => by exact h))
        have HS' : Hd (Sl (fun b => b < w.heap.size) W21 (.slice a m c) (u8s x.b)) := hid (HS.out.keep hk (fun _ _ _ h => h))
        clear HB BA BR1 BR2 HS
        have HB := HB'
        clear HB'
        have BA := BA'
        clear BA'
        have BR1 := BR1'
        clear BR1'
        have BR2 := BR2'
        clear BR2'
        have HS := HS'
        clear HS'
        have HK' : Hd (Keeps (fun _ => False) w W21) := hid (HK.out.trans hk)
        clear HK
        have HK := HK'
        clear HK'
        have z_W21 := hk.size
        clear hk
        have lt_F := blk_lt B_F.out
        obtain ⟨nk, hnk⟩ : ∃ s, stepN kj = s := ⟨_, rfl⟩
        have HFF : Hd (F = signF ⟨kj, ij⟩ ⟨x.n, ij, u, x.b, 0⟩) := hid (by rw [HSF.out, HAV.out])
        have HLL : Hd (L2 = ⟨nk, ij + 1⟩) := hid (by rw [HSL.out, HAV.out, ← hnk]; rfl)
        clear HSF HSL
        have HNK := hid hnk
        clear hnk
        obtain ⟨en, hen⟩ : ∃ en, covL ⟨x.n, ij, u, x.b, 0⟩ = en := ⟨_, rfl⟩
        have HEN := hid hen
        clear hen
        have HF0 : Hd (⟨x.n, ij, u, x.b, 0⟩ : Fr).ok := hid ⟨HX.out.n.1, HX.out.n.2, by show _ ≤ ij; omega, by show ij ≤ _; omega, HX.out.b, by show 0 < _; omega, by show x.b.length ≤ _; rw [HM.out]; exact hb⟩
        have HEL : Hd (en.length ≤ 140737488355000) := hid (by rw [← HEN.out]; have h1 := covL_len HF0.out; have h2 := HF0.out.n; omega)
        have HET : Hd (∀ c ∈ en, c < 256) := hid (by rw [← HEN.out]; exact covL_lt HF0.out)
        obtain ⟨t, ht⟩ : ∃ t, tagN kj en = t := ⟨_, rfl⟩
        have HT := hid ht
        clear ht
        have HFT : Hd (F = ⟨x.n, ij, u, x.b, t⟩) := hid (by rw [HFF.out, ← HT.out, ← HEN.out]; rfl)
        have HCS : Hd (∀ X, Keeps (fun _ => False) W21 X → Calls Tryd.prog 14 #[.agg #[.int .i64 x.n, .int .i64 ij, .bool u, .slice a m c, .int .u64 0]] X fun e w' => Cr.NewRet X 5 (u8s en) e w') := hid (fun X hx => by have h := Signed_any ⟨x.n, ij, u, x.b, 0⟩ (fun b => b < w.heap.size) a c X HF0.out (by show Sl _ X (.slice a x.b.length c) (u8s x.b); rw [HM.out]; exact HS.out.keep hx (fun _ _ _ h => h)); rw [HEN.out] at h; simp only [HM.out] at h; exact h)
        have HCL : Hd (∀ X (v : Value) (K : Nat → Prop), Sl K X v (u8s en) → Calls Tryd.prog 50 #[.agg #[.int .u64 (kj : Int), .int .i64 ij], v] X fun e w' => e = .returned (.tuple #[.int .u64 (t : Int), .agg #[.int .u64 (nk : Int), .int .i64 (ij + 1)]]) ∧ Keeps (fun _ => False) X w') := hid (fun X v K hv => by have h := LSign_any ⟨kj, ij⟩ K v en X ⟨HIL.out, hij.1, by show ij ≤ _; omega⟩ hv HET.out (Nat.le_trans HEL.out (by decide)); simp only [HT.out, HNK.out] at h; exact h)
        go_upto_region 6 with fail
        go_cut [8, 9] from 34 to 39 (fun u8 u9 wx => u8 = (.int .u64 (t : Int)) ∧ ∃ bx, u9 = .pointer (some ⟨bx, 0, none⟩) ∧ W21.heap.size ≤ bx ∧ Hd (Blk wx bx #[(.int .u64 (nk : Int)), (.int .i64 (ij + 1))] 33) ∧ Hd (Keeps (fun _ => False) W21 wx))
        case first =>
          have KC : Hd (Keeps (fun _ => False) W21 W21) := hid (Keeps.refl _ _)
          have HSS : Hd (∀ w', Keeps (fun _ => False) W21 w' → (w'.cell? ⟨w.heap.size, 0, none⟩ = some ((.int .u64 (kj : Int))) ∧ w'.cell? ⟨w.heap.size, 1, none⟩ = some ((.int .i64 ij)) ∧ w'.cell? ⟨b_F, 0, none⟩ = some ((.int .i64 x.n)) ∧ w'.cell? ⟨b_F, 1, none⟩ = some ((.int .i64 ij)) ∧ w'.cell? ⟨b_F, 2, none⟩ = some ((.bool u)) ∧ w'.cell? ⟨b_F, 3, none⟩ = some ((.slice a m c)) ∧ w'.cell? ⟨b_F, 4, none⟩ = some ((.int .u64 0)))) := hid (fun w' hk => ⟨blk_cell (blk_keep HB.out hk (fun h => h)) 0, blk_cell (blk_keep HB.out hk (fun h => h)) 1, blk_cell (blk_keep B_F.out hk (fun h => h)) 0, blk_cell (blk_keep B_F.out hk (fun h => h)) 1, blk_cell (blk_keep B_F.out hk (fun h => h)) 2, blk_cell (blk_keep B_F.out hk (fun h => h)) 3, blk_cell (blk_keep B_F.out hk (fun h => h)) 4⟩)
          go_region_held (fun w' => w'.cell? ⟨w.heap.size, 0, none⟩ = some ((.int .u64 (kj : Int))) ∧ w'.cell? ⟨w.heap.size, 1, none⟩ = some ((.int .i64 ij)) ∧ w'.cell? ⟨b_F, 0, none⟩ = some ((.int .i64 x.n)) ∧ w'.cell? ⟨b_F, 1, none⟩ = some ((.int .i64 ij)) ∧ w'.cell? ⟨b_F, 2, none⟩ = some ((.bool u)) ∧ w'.cell? ⟨b_F, 3, none⟩ = some ((.slice a m c)) ∧ w'.cell? ⟨b_F, 4, none⟩ = some ((.int .u64 0))) (exact HSS.out _ (by repeat (first | (with_reducible refine Keeps.setCell (S := fun _ => False) ?_ (.inl (by first | (with_reducible rfl) | (simp; done))) _) | (with_reducible apply Keeps.drewN) | (with_reducible apply Keeps.drew) | (with_reducible apply Keeps.alloc) | (refine Keeps.setCell (S := fun _ => False) ?_ (.inr (by first | exact Nat.le_refl _ | omega | (simp; omega))) _) | (with_reducible exact KC.out) | (with_reducible exact Keeps.refl _ _) | (with_reducible exact KC.out.mono (fun _ _ h => h.elim)))))
            (first
            | (go_at_call 14; (refine (HCS.out _ (by repeat (first | (with_reducible exact KC.out) | (with_reducible exact Keeps.refl _ _) | (with_reducible apply Keeps.drewN) | (with_reducible apply Keeps.drew) | (with_reducible apply Keeps.alloc)))).mono ?_); rintro e wy0 ⟨an, nn, cn, rfl, hnn, hon, hk⟩; (try (replace LNB := hid (Keeps.trans (S := fun _ => False) (by repeat (first | (with_reducible exact LNB.out) | (with_reducible exact Keeps.refl _ _) | (with_reducible apply Keeps.drewN) | (with_reducible apply Keeps.drew) | (with_reducible apply Keeps.alloc))) hk))); (first | (have HNBX := HNB; clear HNBX) | (have HNB : Hd (∀ Vz, Keeps (fun _ => False) wy0 Vz → Blk Vz W21.heap.size #[(.int .u64 0), (.int .i64 0)] 33) := hid (fun Vz hv => blk_keep (blk_keep (by (repeat (first | (with_reducible apply blk_drewN) | (with_reducible apply blk_drew) | (with_reducible refine blk_new' _ _ _ _ ?_) | (with_reducible apply blk_alloc))); (first | (with_reducible rfl) | (simp only [World.size_alloc, World.size_drew]; done) | (simp; done))) hk (fun h => h)) hv (fun h => h)); have LNB : Hd (Keeps (fun _ => False) wy0 wy0) := hid (Keeps.refl _ _); have hnbx : W21.heap.size ≤ W21.heap.size := by first | exact Nat.le_refl _ | omega) | skip); (try (have nF0 := blk_cell (HNB.out _ LNB.out) 0; have nG0 := blk_free (HNB.out _ LNB.out) 0; have nF1 := blk_cell (HNB.out _ LNB.out) 1; have nG1 := blk_free (HNB.out _ LNB.out) 1)); have KC2 : Hd (Keeps (fun _ => False) W21 wy0) := hid (Keeps.trans (S := fun _ => False) (by repeat (first | (with_reducible exact KC.out) | (with_reducible exact Keeps.refl _ _) | (with_reducible apply Keeps.drewN) | (with_reducible apply Keeps.drew) | (with_reducible apply Keeps.alloc))) hk); have zc := KC.out.size; have zk := hk.size; (try simp at zk); have HSL : Hd (∀ X, Keeps (fun _ => False) wy0 X → Sl (fun _ => True) X (.slice an nn cn) (u8s en)) := hid (fun X hx => ((row_sl hon.row hnn.symm).mono (fun _ _ _ => trivial)).keep hx (fun _ _ _ h => h)); clear hnn hon; replace KC := KC2; clear KC2; replace hk := hid hk)
            | (go_at_call 50; (refine (HCL.out _ _ _ (HSL.out _ (by repeat (first | (with_reducible exact Keeps.refl _ _) | (with_reducible apply Keeps.drewN) | (with_reducible apply Keeps.drew) | (with_reducible apply Keeps.alloc))))).mono ?_); rintro e wy1 ⟨rfl, hk⟩; (try (replace LNB := hid (Keeps.trans (S := fun _ => False) (by repeat (first | (with_reducible exact LNB.out) | (with_reducible exact Keeps.refl _ _) | (with_reducible apply Keeps.drewN) | (with_reducible apply Keeps.drew) | (with_reducible apply Keeps.alloc))) hk))); (first | (have HNBX := HNB; clear HNBX) | (have HNB : Hd (∀ Vz, Keeps (fun _ => False) wy1 Vz → Blk Vz W21.heap.size #[(.int .u64 0), (.int .i64 0)] 33) := hid (fun Vz hv => blk_keep (blk_keep (by (repeat (first | (with_reducible apply blk_drewN) | (with_reducible apply blk_drew) | (with_reducible refine blk_new' _ _ _ _ ?_) | (with_reducible apply blk_alloc))); (first | (with_reducible rfl) | (simp only [World.size_alloc, World.size_drew]; done) | (simp; done))) hk (fun h => h)) hv (fun h => h)); have LNB : Hd (Keeps (fun _ => False) wy1 wy1) := hid (Keeps.refl _ _); have hnbx : W21.heap.size ≤ W21.heap.size := by first | exact Nat.le_refl _ | omega) | (have HNB : Hd (∀ Vz, Keeps (fun _ => False) wy1 Vz → Blk Vz wy0.heap.size #[(.int .u64 0), (.int .i64 0)] 33) := hid (fun Vz hv => blk_keep (blk_keep (by (repeat (first | (with_reducible apply blk_drewN) | (with_reducible apply blk_drew) | (with_reducible refine blk_new' _ _ _ _ ?_) | (with_reducible apply blk_alloc))); (first | (with_reducible rfl) | (simp only [World.size_alloc, World.size_drew]; done) | (simp; done))) hk (fun h => h)) hv (fun h => h)); have LNB : Hd (Keeps (fun _ => False) wy1 wy1) := hid (Keeps.refl _ _); have hnbx : W21.heap.size ≤ wy0.heap.size := by first | exact Nat.le_refl _ | omega) | skip); (try (have nF0 := blk_cell (HNB.out _ LNB.out) 0; have nG0 := blk_free (HNB.out _ LNB.out) 0; have nF1 := blk_cell (HNB.out _ LNB.out) 1; have nG1 := blk_free (HNB.out _ LNB.out) 1)); have KC2 : Hd (Keeps (fun _ => False) W21 wy1) := hid (Keeps.trans (S := fun _ => False) (by repeat (first | (with_reducible exact KC.out) | (with_reducible exact Keeps.refl _ _) | (with_reducible apply Keeps.drewN) | (with_reducible apply Keeps.drew) | (with_reducible apply Keeps.alloc))) hk); have zc := KC.out.size; have zk := hk.size; (try simp at zk); replace KC := KC2; clear KC2; replace hk := hid hk))
          all_goals
            go_wp2_with fail
            go_meet
            exact ⟨rfl, _, rfl, (by first | exact Nat.le_refl _ | omega | (simp; done) | (simp; omega)), hid (by repeat (first | (with_reducible exact HNB.out _ LNB.out) | (with_reducible refine blkset2 (c0 := (.int .u64 0)) (c1 := (.int .i64 0)) ?_) | (with_reducible refine blk_new' _ _ _ _ (by first | (with_reducible rfl) | (simp only [World.size_alloc, World.size_drew]; done) | (simp; done) | (simp; omega))) | (with_reducible refine blk_other ?_ (by first | omega | (simp only [World.size_alloc, World.size_drew]; omega)) _ _) | (with_reducible apply blk_drewN) | (with_reducible apply blk_drew) | (with_reducible refine blk_alloc ?_ _))), hid (by repeat (first | (with_reducible refine Keeps.setCell (S := fun _ => False) ?_ (.inl (by first | (with_reducible rfl) | (simp; done))) _) | (with_reducible apply Keeps.drewN) | (with_reducible apply Keeps.drew) | (with_reducible apply Keeps.alloc) | (refine Keeps.setCell (S := fun _ => False) ?_ (.inr (by first | exact Nat.le_refl _ | omega | (simp; omega))) _) | (with_reducible exact KC.out) | (with_reducible exact Keeps.refl _ _) | (with_reducible exact KC.out.mono (fun _ _ h => h.elim))))⟩
        case rest =>
          obtain ⟨rfl, b_N, rfl, hb_N, B_N, hk⟩ := hcut
          replace hk := hk.out
          generalize wc = W22 at *
          have HB' : Hd (Blk W22 w.heap.size #[(.int .u64 (kj : Int)), (.int .i64 ij)] 33) := hid (blk_keep HB.out hk (fun h => by exact h))
          have BA' : Hd (Blk W22 b_BA #[(.int .i64 x.kd), (.int .i64 x.n), (.int .i64 x.m), (.slice a m c)] 39) := hid (blk_keep BA.out hk (fun h => by exact h))
          have BR1' : Hd (Blk W22 b_BR1 #[(.int .i64 0), (.int .i64 0), (.bool false), (.slice none 0 0), (.int .u64 0)] 25) := hid (blk_keep BR1.out hk (fun h => by exact h))
          have BR2' : Hd (Blk W22 b_BR2 #[(.int .u64 0), (.int .i64 0)] 33) := hid (blk_keep BR2.out hk (fun h => by exact h))
          have HS' : Hd (Sl (fun b => b < w.heap.size) W22 (.slice a m c) (u8s x.b)) := hid (HS.out.keep hk (fun _ _ _ h => h))
          have B_F' : Hd (Blk W22 b_F #[(.int .i64 x.n), (.int .i64 ij), (.bool u), (.slice a m c), (.int .u64 0)] 25) := hid (blk_keep B_F.out hk (fun h => by exact h))
          clear HB BA BR1 BR2 HS B_F
          have HB := HB'
          clear HB'
          have BA := BA'
          clear BA'
          have BR1 := BR1'
          clear BR1'
          have BR2 := BR2'
          clear BR2'
          have HS := HS'
          clear HS'
          have B_F := B_F'
          clear B_F'
          have HK' : Hd (Keeps (fun _ => False) w W22) := hid (HK.out.trans hk)
          clear HK
          have HK := HK'
          clear HK'
          have z_W22 := hk.size
          clear hk
          have lt_N := blk_lt B_N.out
          have o_B_F_4 : W22.cell? ⟨b_F, 4, none⟩ = some ((.int .u64 0)) := blk_cell B_F.out 4
          have f_B_F_4 : W22.frozen? ⟨b_F, 4, none⟩ = false := blk_free B_F.out 4
          go_upto_region 8 with fail
          clear o_B_F_4 f_B_F_4
          generalize hW : World.setCell W22 _ _ = W23
          have KS : Hd (Keeps (fun b => b = b_F) W22 W23) := hid (by rw [← hW]; exact (Keeps.setCell (S := fun b => b = b_F) (p := ⟨b_F, 4, none⟩) (Keeps.refl (fun b => b = b_F) W22) (.inl rfl) _))
          have HB' : Hd (Blk W23 w.heap.size #[(.int .u64 (kj : Int)), (.int .i64 ij)] 33) := hid (by rw [← hW]; exact (blk_other HB.out (by omega) _ _))
          have BA' : Hd (Blk W23 b_BA #[(.int .i64 x.kd), (.int .i64 x.n), (.int .i64 x.m), (.slice a m c)] 39) := hid (by rw [← hW]; exact (blk_other BA.out (by omega) _ _))
          have BR1' : Hd (Blk W23 b_BR1 #[(.int .i64 0), (.int .i64 0), (.bool false), (.slice none 0 0), (.int .u64 0)] 25) := hid (by rw [← hW]; exact (blk_other BR1.out (by omega) _ _))
          have BR2' : Hd (Blk W23 b_BR2 #[(.int .u64 0), (.int .i64 0)] 33) := hid (by rw [← hW]; exact (blk_other BR2.out (by omega) _ _))
          have HS' : Hd (Sl (fun b => b < w.heap.size) W23 (.slice a m c) (u8s x.b)) := hid (HS.out.keep KS.out (fun b _ h1 h2 => by omega))
          have B_F' : Hd (Blk W23 b_F #[(.int .i64 x.n), (.int .i64 ij), (.bool u), (.slice a m c), (.int .u64 (t : Int))] 25) := hid (by rw [← hW]; exact (blk_set B_F.out 4 _))
          have B_N' : Hd (Blk W23 b_N #[(.int .u64 (nk : Int)), (.int .i64 (ij + 1))] 33) := hid (by rw [← hW]; exact (blk_other B_N.out (by omega) _ _))
          clear HB BA BR1 BR2 HS B_F B_N
          have HB := HB'
          clear HB'
          have BA := BA'
          clear BA'
          have BR1 := BR1'
          clear BR1'
          have BR2 := BR2'
          clear BR2'
          have HS := HS'
          clear HS'
          have B_F := B_F'
          clear B_F'
          have B_N := B_N'
          clear B_N'
          have HK' : Hd (Keeps (fun _ => False) w W23) := hid (HK.out.trans' KS.out (fun i hi h => by omega))
          clear HK
          have HK := HK'
          clear HK'
          have z_W23 : W22.heap.size + 0 ≤ W23.heap.size := by rw [← hW]; simp
          clear hW KS
          go_cut [] from 42 to 43 (fun wx => Hd (Blk wx b_BR1 #[(.int .i64 x.n), (.int .i64 ij), (.bool u), (.slice a m c), (.int .u64 (t : Int))] 25) ∧ Hd (Blk wx b_BR2 #[(.int .u64 (nk : Int)), (.int .i64 (ij + 1))] 33) ∧ Hd (Keeps (fun b => b = b_BR1 ∨ b = b_BR2) W23 wx))
          case first =>
            have KC : Hd (Keeps (fun _ => False) W23 W23) := hid (Keeps.refl _ _)
            have HSS : Hd (∀ w', Keeps (fun b => b = b_BR1 ∨ b = b_BR2) W23 w' → (w'.cell? ⟨b_F, 0, none⟩ = some ((.int .i64 x.n)) ∧ w'.cell? ⟨b_F, 1, none⟩ = some ((.int .i64 ij)) ∧ w'.cell? ⟨b_F, 2, none⟩ = some ((.bool u)) ∧ w'.cell? ⟨b_F, 3, none⟩ = some ((.slice a m c)) ∧ w'.cell? ⟨b_F, 4, none⟩ = some ((.int .u64 (t : Int))) ∧ w'.cell? ⟨b_N, 0, none⟩ = some ((.int .u64 (nk : Int))) ∧ w'.cell? ⟨b_N, 1, none⟩ = some ((.int .i64 (ij + 1))))) := hid (fun w' hk => ⟨blk_cell (blk_keep B_F.out hk (fun h => by omega)) 0, blk_cell (blk_keep B_F.out hk (fun h => by omega)) 1, blk_cell (blk_keep B_F.out hk (fun h => by omega)) 2, blk_cell (blk_keep B_F.out hk (fun h => by omega)) 3, blk_cell (blk_keep B_F.out hk (fun h => by omega)) 4, blk_cell (blk_keep B_N.out hk (fun h => by omega)) 0, blk_cell (blk_keep B_N.out hk (fun h => by omega)) 1⟩)
            have sF_BR1_0 : W23.cell? ⟨b_BR1, 0, none⟩ = some ((.int .i64 0)) := blk_cell (blk_keep BR1.out KC.out (fun h => h)) 0
            have sG_BR1_0 : W23.frozen? ⟨b_BR1, 0, none⟩ = false := blk_free (blk_keep BR1.out KC.out (fun h => h)) 0
            have sF_BR1_1 : W23.cell? ⟨b_BR1, 1, none⟩ = some ((.int .i64 0)) := blk_cell (blk_keep BR1.out KC.out (fun h => h)) 1
            have sG_BR1_1 : W23.frozen? ⟨b_BR1, 1, none⟩ = false := blk_free (blk_keep BR1.out KC.out (fun h => h)) 1
            have sF_BR1_2 : W23.cell? ⟨b_BR1, 2, none⟩ = some ((.bool false)) := blk_cell (blk_keep BR1.out KC.out (fun h => h)) 2
            have sG_BR1_2 : W23.frozen? ⟨b_BR1, 2, none⟩ = false := blk_free (blk_keep BR1.out KC.out (fun h => h)) 2
            have sF_BR1_3 : W23.cell? ⟨b_BR1, 3, none⟩ = some ((.slice none 0 0)) := blk_cell (blk_keep BR1.out KC.out (fun h => h)) 3
            have sG_BR1_3 : W23.frozen? ⟨b_BR1, 3, none⟩ = false := blk_free (blk_keep BR1.out KC.out (fun h => h)) 3
            have sF_BR1_4 : W23.cell? ⟨b_BR1, 4, none⟩ = some ((.int .u64 0)) := blk_cell (blk_keep BR1.out KC.out (fun h => h)) 4
            have sG_BR1_4 : W23.frozen? ⟨b_BR1, 4, none⟩ = false := blk_free (blk_keep BR1.out KC.out (fun h => h)) 4
            have sF_BR2_0 : W23.cell? ⟨b_BR2, 0, none⟩ = some ((.int .u64 0)) := blk_cell (blk_keep BR2.out KC.out (fun h => h)) 0
            have sG_BR2_0 : W23.frozen? ⟨b_BR2, 0, none⟩ = false := blk_free (blk_keep BR2.out KC.out (fun h => h)) 0
            have sF_BR2_1 : W23.cell? ⟨b_BR2, 1, none⟩ = some ((.int .i64 0)) := blk_cell (blk_keep BR2.out KC.out (fun h => h)) 1
            have sG_BR2_1 : W23.frozen? ⟨b_BR2, 1, none⟩ = false := blk_free (blk_keep BR2.out KC.out (fun h => h)) 1
            have sL_B_F_0 : W23.cell? ⟨b_F, 0, none⟩ = some ((.int .i64 x.n)) := blk_cell (blk_keep B_F.out KC.out (fun h => h)) 0
            have sL_B_F_1 : W23.cell? ⟨b_F, 1, none⟩ = some ((.int .i64 ij)) := blk_cell (blk_keep B_F.out KC.out (fun h => h)) 1
            have sL_B_F_2 : W23.cell? ⟨b_F, 2, none⟩ = some ((.bool u)) := blk_cell (blk_keep B_F.out KC.out (fun h => h)) 2
            have sL_B_F_3 : W23.cell? ⟨b_F, 3, none⟩ = some ((.slice a m c)) := blk_cell (blk_keep B_F.out KC.out (fun h => h)) 3
            have sL_B_F_4 : W23.cell? ⟨b_F, 4, none⟩ = some ((.int .u64 (t : Int))) := blk_cell (blk_keep B_F.out KC.out (fun h => h)) 4
            have sL_B_N_0 : W23.cell? ⟨b_N, 0, none⟩ = some ((.int .u64 (nk : Int))) := blk_cell (blk_keep B_N.out KC.out (fun h => h)) 0
            have sL_B_N_1 : W23.cell? ⟨b_N, 1, none⟩ = some ((.int .i64 (ij + 1))) := blk_cell (blk_keep B_N.out KC.out (fun h => h)) 1
            have LB_BR1 : ∀ X, Blk X b_BR1 #[(.int .i64 0), (.int .i64 0), (.bool false), (.slice none 0 0), (.int .u64 0)] 25 → Blk (((((X.setCell ⟨b_BR1, 0, none⟩ (.int .i64 x.n)).setCell ⟨b_BR1, 1, none⟩ (.int .i64 ij)).setCell ⟨b_BR1, 2, none⟩ (.bool u)).setCell ⟨b_BR1, 3, none⟩ (.slice a m c)).setCell ⟨b_BR1, 4, none⟩ (.int .u64 (t : Int))) b_BR1 #[(.int .i64 x.n), (.int .i64 ij), (.bool u), (.slice a m c), (.int .u64 (t : Int))] 25 := fun X h => (blk_set (blk_set (blk_set (blk_set (blk_set h 0 _) 1 _) 2 _) 3 _) 4 _)
            have LO_BR2_BR1 : ∀ X cs T, Blk X b_BR1 cs T → Blk ((X.setCell ⟨b_BR2, 0, none⟩ (.int .u64 (nk : Int))).setCell ⟨b_BR2, 1, none⟩ (.int .i64 (ij + 1))) b_BR1 cs T := fun X cs T h => (blk_other (blk_other h (by omega) _ _) (by omega) _ _)
            have LB_BR2 : ∀ X, Blk X b_BR2 #[(.int .u64 0), (.int .i64 0)] 33 → Blk ((X.setCell ⟨b_BR2, 0, none⟩ (.int .u64 (nk : Int))).setCell ⟨b_BR2, 1, none⟩ (.int .i64 (ij + 1))) b_BR2 #[(.int .u64 (nk : Int)), (.int .i64 (ij + 1))] 33 := fun X h => (blk_set (blk_set h 0 _) 1 _)
            have LO_BR1_BR2 : ∀ X cs T, Blk X b_BR2 cs T → Blk (((((X.setCell ⟨b_BR1, 0, none⟩ (.int .i64 x.n)).setCell ⟨b_BR1, 1, none⟩ (.int .i64 ij)).setCell ⟨b_BR1, 2, none⟩ (.bool u)).setCell ⟨b_BR1, 3, none⟩ (.slice a m c)).setCell ⟨b_BR1, 4, none⟩ (.int .u64 (t : Int))) b_BR2 cs T := fun X cs T h => (blk_other (blk_other (blk_other (blk_other (blk_other h (by omega) _ _) (by omega) _ _) (by omega) _ _) (by omega) _ _) (by omega) _ _)
            go_region
            all_goals
              go_wp2_with fail
              go_meet
              exact ⟨hid (by repeat (first | (with_reducible refine LB_BR1 _ ?_) | (with_reducible refine blk_other ?_ (by first | omega | (simp only [World.size_alloc, World.size_drew]; omega)) _ _) | (with_reducible apply blk_drewN) | (with_reducible apply blk_drew) | (with_reducible refine blk_alloc ?_ _) | (with_reducible exact blk_keep BR1.out KC.out (fun h => h)))), hid (by repeat (first | (with_reducible refine LB_BR2 _ ?_) | (with_reducible refine blk_other ?_ (by first | omega | (simp only [World.size_alloc, World.size_drew]; omega)) _ _) | (with_reducible apply blk_drewN) | (with_reducible apply blk_drew) | (with_reducible refine blk_alloc ?_ _) | (with_reducible exact blk_keep BR2.out KC.out (fun h => h)))), hid (by repeat (first | (with_reducible refine Keeps.setCell (S := fun b => b = b_BR1 ∨ b = b_BR2) ?_ (.inl (by first | (with_reducible rfl) | (simp; done))) _) | (with_reducible apply Keeps.drewN) | (with_reducible apply Keeps.drew) | (with_reducible exact KC.out) | (with_reducible exact Keeps.refl _ _) | (with_reducible exact KC.out.mono (fun _ _ h => h.elim))))⟩
          case rest =>
            obtain ⟨N_BR1, N_BR2, hk⟩ := hcut
            replace hk := hk.out
            generalize wc = W24 at *
            have HB' : Hd (Blk W24 w.heap.size #[(.int .u64 (kj : Int)), (.int .i64 ij)] 33) := hid (blk_keep HB.out hk (fun h => by omega))
            have BA' : Hd (Blk W24 b_BA #[(.int .i64 x.kd), (.int .i64 x.n), (.int .i64 x.m), (.slice a m c)] 39) := hid (blk_keep BA.out hk (fun h => by omega))
            have HS' : Hd (Sl (fun b => b < w.heap.size) W24 (.slice a m c) (u8s x.b)) := hid (HS.out.keep hk (fun b _ h1 h2 => by omega))
            have B_F' : Hd (Blk W24 b_F #[(.int .i64 x.n), (.int .i64 ij), (.bool u), (.slice a m c), (.int .u64 (t : Int))] 25) := hid (blk_keep B_F.out hk (fun h => by omega))
            have B_N' : Hd (Blk W24 b_N #[(.int .u64 (nk : Int)), (.int .i64 (ij + 1))] 33) := hid (blk_keep B_N.out hk (fun h => by omega))
            clear HB BA HS B_F B_N
            have HB := HB'
            clear HB'
            have BA := BA'
            clear BA'
            have HS := HS'
            clear HS'
            have B_F := B_F'
            clear B_F'
            have B_N := B_N'
            clear B_N'
            clear BR1
            have BR1 := N_BR1
            clear N_BR1
            clear BR2
            have BR2 := N_BR2
            clear N_BR2
            have HK' : Hd (Keeps (fun _ => False) w W24) := hid (HK.out.trans' hk (fun i hi h => by omega))
            clear HK
            have HK := HK'
            clear HK'
            have z_W24 := hk.size
            clear hk
            go_wp2
            have rr_BR1_0 := blk_cell BR1.out 0
            have rr_BR1_1 := blk_cell BR1.out 1
            have rr_BR1_2 := blk_cell BR1.out 2
            have rr_BR1_3 := blk_cell BR1.out 3
            have rr_BR1_4 := blk_cell BR1.out 4
            have rr_BR2_0 := blk_cell BR2.out 0
            have rr_BR2_1 := blk_cell BR2.out 1
            refine bodyPost_ret (v := .tuple #[.agg #[(.int .i64 x.n), (.int .i64 ij), (.bool u), (.slice a m c), (.int .u64 (t : Int))], .agg #[(.int .u64 (nk : Int)), (.int .i64 (ij + 1))]]) (by simp [results, Tryd.results23, go_sem, rr_BR1_0, rr_BR1_1, rr_BR1_2, rr_BR1_3, rr_BR1_4, rr_BR2_0, rr_BR2_1]) rfl ?_
            rw [HFT.out, HLL.out]
            exact ⟨by simp only [HM.out], HK.out⟩
end Go.Proofs.YthoikljmokkchaaDoor
