/- Frame: ladders. -/
import Derived.Test.YthoikljmokkchaaDoorHashAll
import Derived.Test.YthoikljmokkchaaDoorHeld
import Derived.Deep.RegionHeld
import Derived.Deep.CutRange
namespace Go.Proofs.YthoikljmokkchaaDoor
open Go.RowKit
theorem blkset2 {X : World} {b : Nat} {T : TypeId} {c0 c1 u0 u1 : Value} (h : Blk X b #[c0, c1] T) : Blk ((X.setCell ⟨b, 0, none⟩ u0).setCell ⟨b, 1, none⟩ u1) b #[u0, u1] T := by
  have h := (blk_set (blk_set h 0 u0) 1 u1)
  simp only [List.setIfInBounds_toArray, List.set_cons_zero, List.set_cons_succ] at h
  exact h
theorem blkset4 {X : World} {b : Nat} {T : TypeId} {c0 c1 c2 c3 u0 u1 u2 u3 : Value} (h : Blk X b #[c0, c1, c2, c3] T) : Blk ((((X.setCell ⟨b, 0, none⟩ u0).setCell ⟨b, 1, none⟩ u1).setCell ⟨b, 2, none⟩ u2).setCell ⟨b, 3, none⟩ u3) b #[u0, u1, u2, u3] T := by
  have h := (blk_set (blk_set (blk_set (blk_set h 0 u0) 1 u1) 2 u2) 3 u3)
  simp only [List.setIfInBounds_toArray, List.set_cons_zero, List.set_cons_succ] at h
  exact h
theorem blkset5 {X : World} {b : Nat} {T : TypeId} {c0 c1 c2 c3 c4 u0 u1 u2 u3 u4 : Value} (h : Blk X b #[c0, c1, c2, c3, c4] T) : Blk (((((X.setCell ⟨b, 0, none⟩ u0).setCell ⟨b, 1, none⟩ u1).setCell ⟨b, 2, none⟩ u2).setCell ⟨b, 3, none⟩ u3).setCell ⟨b, 4, none⟩ u4) b #[u0, u1, u2, u3, u4] T := by
  have h := (blk_set (blk_set (blk_set (blk_set (blk_set h 0 u0) 1 u1) 2 u2) 3 u3) 4 u4)
  simp only [List.setIfInBounds_toArray, List.set_cons_zero, List.set_cons_succ] at h
  exact h
def iterN : Nat → Nat → Nat
  | 0, k => k
  | n + 1, k => stepN (iterN n k)
theorem iterN_lt {k : Nat} (h : k < 18446744073709551616) : ∀ n, iterN n k < 18446744073709551616
  | 0 => h
  | n + 1 => stepN_lt _
structure Ld where
  k : Nat
  i : Int
structure Ld.ok (l : Ld) : Prop where
  k : l.k < 18446744073709551616
  i0 : 0 ≤ l.i
  i1 : l.i ≤ 1000000000000
set_option maxRecDepth 100000 in set_option maxHeartbeats 1000000 in
theorem after_any (k : Nat) (i : Int) (n : Nat) (w : World) (hk : k < 18446744073709551616) (h0 : 0 ≤ i) (h1 : i ≤ 2000000000000) (hn : n ≤ 1000000000000) :
    Calls Tryd.prog 80 #[.agg #[.int .u64 (k : Int), .int .i64 i], .int .i64 (n : Int)] w fun e w' => e = .returned (.agg #[.int .u64 (iterN n k : Nat), .int .i64 (i + n)]) ∧ Keeps (fun _ => False) w w' := by
  have HKK := hid hk
  clear hk
  go_enter Tryd.func80, Tryd.ntmps80
  go_upto_region 1 with fail
  generalize hW : World.alloc (World.alloc w _) _ = W1
  have KS : Hd (Keeps (fun _ => False) w W1) := hid (by rw [← hW]; exact (Keeps.alloc (Keeps.alloc (Keeps.refl (fun _ => False) w) _) _))
  have BL : Hd (Blk W1 w.heap.size #[(.int .u64 (k : Int)), (.int .i64 i)] 33) := hid (by rw [← hW]; exact (blk_alloc (blk_new _ _ _) _))
  have BR : Hd (Blk W1 (w.heap.size + 1) #[(.int .u64 0), (.int .i64 0)] 33) := hid (by rw [← hW]; exact (blk_new' _ _ _ _ (by simp)))
  have HK : Hd (Keeps (fun _ => False) w W1) := hid KS.out
  have z_W1 : w.heap.size + 2 ≤ W1.heap.size := by rw [← hW]; simp
  clear hW KS
  go_wp2_with fail
  go_loopw [6] (fun iv wr => ∃ j : Nat, iv = .int .i64 (j : Int) ∧ j ≤ n ∧ Hd (Blk wr w.heap.size #[.int .u64 ((iterN j k : Nat) : Int), .int .i64 i] 33) ∧ Hd (Keeps (fun b => b = w.heap.size) W1 wr)) (fun iv _ => n - (intOf iv).toNat)
  case atStart => exact ⟨0, rfl, Nat.zero_le _, BL, hid (Keeps.refl _ _)⟩
  case round =>
    obtain ⟨X, rfl⟩ : ∃ X, X = wr := ⟨_, rfl⟩
    obtain ⟨j, rfl, hj, HB, HX⟩ := hrel
    clear BL
    by_cases hlt : j < n
    · have q1 : (j : Int) < n := by omega
      have q2 : (0 : Int) ≤ j := by omega
      have HL := hid (iterN_lt HKK.out j)
      have HS : Hd (iterN (j + 1) k = stepN (iterN j k)) := hid rfl
      generalize iterN j k = x at *
      have o0 : X.cell? ⟨w.heap.size, 0, none⟩ = some (.int .u64 (x : Int)) := blk_cell HB.out 0
      have o1 : X.frozen? ⟨w.heap.size, 0, none⟩ = false := blk_free HB.out 0
      go_wp2_with fail
      refine (Step_any x HL.out _).mono ?_
      rintro e w1 ⟨rfl, rfl⟩
      rw [← HS.out]
      obtain ⟨y, hy⟩ : ∃ y, iterN (j + 1) k = y := ⟨_, rfl⟩
      rw [hy]
      have HY := hid hy
      clear hy
      go_wp2
      go_roundw
      case rel => exact ⟨j + 1, by go_num, by omega, hid (by rw [HY.out]; exact blk_set HB.out 0 _), hid (HX.out.setCell (.inl rfl) _)⟩
      case measure => simp [intOf]; omega
    · have hjn : j = n := by omega
      have q1 : ¬ ((j : Int) < n) := by omega
      subst hjn
      obtain ⟨x, hx⟩ : ∃ x, iterN j k = x := ⟨_, rfl⟩
      rw [hx] at HB
      have HXX := hid hx
      clear hx
      have o0 : X.cell? ⟨w.heap.size, 0, none⟩ = some (.int .u64 (x : Int)) := blk_cell HB.out 0
      have o1 : X.cell? ⟨w.heap.size, 1, none⟩ = some (.int .i64 i) := blk_cell HB.out 1
      have o2 : X.frozen? ⟨w.heap.size, 1, none⟩ = false := blk_free HB.out 1
      have hw : IntKind.i64.wrap (i + (j : Int)) = i + (j : Int) := IntWalk.i64_in _ (by omega)
      have BX := hid (blk_keep BR.out HX.out (fun h => by omega))
      have p0 : X.cell? ⟨w.heap.size + 1, 0, none⟩ = some (.int .u64 0) := blk_cell BX.out 0
      have p1 : X.cell? ⟨w.heap.size + 1, 1, none⟩ = some (.int .i64 0) := blk_cell BX.out 1
      have p2 : X.frozen? ⟨w.heap.size + 1, 0, none⟩ = false := blk_free BX.out 0
      have p3 : X.frozen? ⟨w.heap.size + 1, 1, none⟩ = false := blk_free BX.out 1
      have HK2 : Hd (Keeps (fun _ => False) w X) := hid (HK.out.trans' HX.out (fun b hb h => by omega))
      go_wp2
      obtain ⟨HV2, B3⟩ := fin2 (HK2.out.setCell (p := ⟨w.heap.size, 1, none⟩) (.inr (Nat.le_refl _)) (.int .i64 (i + (j : Int)))) (show w.heap.size ≤ w.heap.size + 1 by omega) (blk_other BX.out (by omega) _ _) (.int .u64 (x : Int)) (.int .i64 (i + (j : Int)))
      have r0 := blk_cell B3 0
      have r1 := blk_cell B3 1
      refine bodyPost_ret (v := .agg #[.int .u64 (x : Int), .int .i64 (i + (j : Int))]) (by simp [results, Tryd.results80, go_sem, r0, r1]) rfl ?_
      exact ⟨by rw [HXX.out], HV2⟩
def signT (l : Ld) (b : List Nat) : Nat := tagN l.k b
def nextL (l : Ld) : Ld := ⟨stepN l.k, l.i + 1⟩
set_option maxRecDepth 100000 in set_option maxHeartbeats 1000000 in
theorem LSign_any (l : Ld) (K : Nat → Prop) (v : Value) (b : List Nat) (w : World) (hl : l.ok) (hv : Sl K w v (u8s b)) (hb : ∀ c ∈ b, c < 256) (hm : b.length ≤ 140737488355200) :
    Calls Tryd.prog 50 #[.agg #[.int .u64 (l.k : Int), .int .i64 l.i], v] w fun e w' => e = .returned (.tuple #[.int .u64 (tagN l.k b : Nat), .agg #[.int .u64 (stepN l.k : Nat), .int .i64 (l.i + 1)]]) ∧ Keeps (fun _ => False) w w' := by
  obtain ⟨k, i⟩ := l
  obtain ⟨hk, hi0, hi1⟩ := hl
  simp only [] at hk hi0 hi1 ⊢
  have HKK := hid hk; have HV := hid (hv.mono (K' := fun b => b < w.heap.size) (fun b h _ => h)); have HB := hid hb; have HM := hid hm
  clear hk hv hb hm
  obtain ⟨t, ht⟩ : ∃ t, tagN k b = t := ⟨_, rfl⟩
  rw [ht]
  have HT := hid ht
  clear ht
  obtain ⟨s, hs⟩ : ∃ s, stepN k = s := ⟨_, rfl⟩
  rw [hs]
  have HS : Hd (iterN 1 k = s) := hid hs
  clear hs
  go_enter Tryd.func50, Tryd.ntmps50
  go_upto_region 1 with fail
  generalize hW : World.alloc (World.alloc w _) _ = W1
  have KS : Hd (Keeps (fun _ => False) w W1) := hid (by rw [← hW]; exact (Keeps.alloc (Keeps.alloc (Keeps.refl (fun _ => False) w) _) _))
  have HV' : Hd (Sl (fun b => b < w.heap.size) W1 v (u8s b)) := hid (HV.out.keep KS.out (fun _ _ _ h => h))
  have BL : Hd (Blk W1 w.heap.size #[(.int .u64 (k : Int)), (.int .i64 i)] 33) := hid (by rw [← hW]; exact (blk_alloc (blk_new _ _ _) _))
  have BR : Hd (Blk W1 (w.heap.size + 1) #[(.int .u64 0), (.int .i64 0)] 33) := hid (by rw [← hW]; exact (blk_new' _ _ _ _ (by simp)))
  clear HV
  have HV := HV'
  clear HV'
  have HK : Hd (Keeps (fun _ => False) w W1) := hid KS.out
  have z_W1 : w.heap.size + 2 ≤ W1.heap.size := by rw [← hW]; simp
  clear hW KS
  go_cut [4] from 6 to 11 (fun u4 wx => u4 = .int .u64 (t : Int) ∧ Hd (Blk wx (w.heap.size + 1) #[(.int .u64 (s : Int)), (.int .i64 (i + 1))] 33) ∧ Hd (Keeps (fun b => b = w.heap.size + 1) W1 wx))
  case first =>
    have KC : Hd (Keeps (fun _ => False) W1 W1) := hid (Keeps.refl _ _)
    have HSS : Hd (∀ w', Keeps (fun b => b = w.heap.size + 1) W1 w' → (w'.cell? ⟨w.heap.size, 0, none⟩ = some ((.int .u64 (k : Int))) ∧ w'.cell? ⟨w.heap.size, 1, none⟩ = some ((.int .i64 i)))) := hid (fun w' hk => ⟨blk_cell (blk_keep BL.out hk (fun h => by omega)) 0, blk_cell (blk_keep BL.out hk (fun h => by omega)) 1⟩)
    have HTA : Hd (∀ X, Keeps (fun _ => False) W1 X → Calls Tryd.prog 79 #[.int .u64 (k : Int), v] X fun e w' => e = .returned (.int .u64 (t : Int)) ∧ Keeps (fun _ => False) X w') := hid (fun X hx => by have h := Tag_any _ k _ b X HKK.out (HV.out.keep hx (fun _ _ _ h => h)) HB.out HM.out; rw [HT.out] at h; exact h)
    have HAF : Hd (∀ X, Calls Tryd.prog 80 #[.agg #[.int .u64 (k : Int), .int .i64 i], .int .i64 1] X fun e w' => e = .returned (.agg #[.int .u64 (s : Int), .int .i64 (i + 1)]) ∧ Keeps (fun _ => False) X w') := hid (fun X => by have h := after_any k i 1 X HKK.out hi0 (by omega) (by omega); rw [HS.out] at h; exact h)
    have sF_BR_0 : W1.cell? ⟨(w.heap.size + 1), 0, none⟩ = some ((.int .u64 0)) := blk_cell (blk_keep BR.out KC.out (fun h => h)) 0
    have sG_BR_0 : W1.frozen? ⟨(w.heap.size + 1), 0, none⟩ = false := blk_free (blk_keep BR.out KC.out (fun h => h)) 0
    have sF_BR_1 : W1.cell? ⟨(w.heap.size + 1), 1, none⟩ = some ((.int .i64 0)) := blk_cell (blk_keep BR.out KC.out (fun h => h)) 1
    have sG_BR_1 : W1.frozen? ⟨(w.heap.size + 1), 1, none⟩ = false := blk_free (blk_keep BR.out KC.out (fun h => h)) 1
    have LB_BR : ∀ X, Blk X (w.heap.size + 1) #[(.int .u64 0), (.int .i64 0)] 33 → Blk ((X.setCell ⟨(w.heap.size + 1), 0, none⟩ (.int .u64 (s : Int))).setCell ⟨(w.heap.size + 1), 1, none⟩ (.int .i64 (i + 1))) (w.heap.size + 1) #[(.int .u64 (s : Int)), (.int .i64 (i + 1))] 33 := fun X h => (blk_set (blk_set h 0 _) 1 _)
    go_region_held (fun w' => w'.cell? ⟨w.heap.size, 0, none⟩ = some ((.int .u64 (k : Int))) ∧ w'.cell? ⟨w.heap.size, 1, none⟩ = some ((.int .i64 i))) (exact HSS.out _ (by repeat (first | (with_reducible refine Keeps.setCell (S := fun b => b = w.heap.size + 1) ?_ (.inl (by simp)) _) | (with_reducible apply Keeps.drewN) | (with_reducible apply Keeps.drew) | (with_reducible exact KC.out) | (with_reducible exact Keeps.refl _ _) | (with_reducible exact KC.out.mono (fun _ _ h => h.elim)))))
      (first
      | (go_at_call 79; (refine (HTA.out _ (by repeat (first | (with_reducible exact KC.out) | (with_reducible exact Keeps.refl _ _) | (with_reducible apply Keeps.drewN) | (with_reducible apply Keeps.drew) | (with_reducible apply Keeps.alloc)))).mono ?_); rintro e wy0 ⟨rfl, hk⟩; have KC2 : Hd (Keeps (fun _ => False) W1 wy0) := hid (Keeps.trans (S := fun _ => False) (by repeat (first | (with_reducible exact KC.out) | (with_reducible exact Keeps.refl _ _) | (with_reducible apply Keeps.drewN) | (with_reducible apply Keeps.drew) | (with_reducible apply Keeps.alloc))) hk); have zc := KC.out.size; have zk := hk.size; (try simp at zk); replace KC := KC2; clear KC2; have sF_BR_0 : wy0.cell? ⟨(w.heap.size + 1), 0, none⟩ = some ((.int .u64 0)) := blk_cell (blk_keep BR.out KC.out (fun h => h)) 0; have sG_BR_0 : wy0.frozen? ⟨(w.heap.size + 1), 0, none⟩ = false := blk_free (blk_keep BR.out KC.out (fun h => h)) 0; have sF_BR_1 : wy0.cell? ⟨(w.heap.size + 1), 1, none⟩ = some ((.int .i64 0)) := blk_cell (blk_keep BR.out KC.out (fun h => h)) 1; have sG_BR_1 : wy0.frozen? ⟨(w.heap.size + 1), 1, none⟩ = false := blk_free (blk_keep BR.out KC.out (fun h => h)) 1; replace hk := hid hk)
      | (go_at_call 80; (refine (HAF.out _).mono ?_); rintro e wy1 ⟨rfl, hk⟩; have KC2 : Hd (Keeps (fun _ => False) W1 wy1) := hid (Keeps.trans (S := fun _ => False) (by repeat (first | (with_reducible exact KC.out) | (with_reducible exact Keeps.refl _ _) | (with_reducible apply Keeps.drewN) | (with_reducible apply Keeps.drew) | (with_reducible apply Keeps.alloc))) hk); have zc := KC.out.size; have zk := hk.size; (try simp at zk); replace KC := KC2; clear KC2; have sF_BR_0 : wy1.cell? ⟨(w.heap.size + 1), 0, none⟩ = some ((.int .u64 0)) := blk_cell (blk_keep BR.out KC.out (fun h => h)) 0; have sG_BR_0 : wy1.frozen? ⟨(w.heap.size + 1), 0, none⟩ = false := blk_free (blk_keep BR.out KC.out (fun h => h)) 0; have sF_BR_1 : wy1.cell? ⟨(w.heap.size + 1), 1, none⟩ = some ((.int .i64 0)) := blk_cell (blk_keep BR.out KC.out (fun h => h)) 1; have sG_BR_1 : wy1.frozen? ⟨(w.heap.size + 1), 1, none⟩ = false := blk_free (blk_keep BR.out KC.out (fun h => h)) 1; replace hk := hid hk))
    all_goals
      go_wp2_with fail
      go_meet
      exact ⟨rfl, hid (by repeat (first | (with_reducible refine LB_BR _ ?_) | (with_reducible refine blk_other ?_ (by first | omega | (simp only [World.size_alloc, World.size_drew]; omega)) _ _) | (with_reducible apply blk_drewN) | (with_reducible apply blk_drew) | (with_reducible refine blk_alloc ?_ _) | (with_reducible exact blk_keep BR.out KC.out (fun h => h)))), hid (by repeat (first | (with_reducible refine Keeps.setCell (S := fun b => b = w.heap.size + 1) ?_ (.inl (by simp)) _) | (with_reducible apply Keeps.drewN) | (with_reducible apply Keeps.drew) | (with_reducible exact KC.out) | (with_reducible exact Keeps.refl _ _) | (with_reducible exact KC.out.mono (fun _ _ h => h.elim))))⟩
  case rest =>
    obtain ⟨rfl, N_BR, hk⟩ := hcut
    replace hk := hk.out
    generalize wc = W2 at *
    have HV' : Hd (Sl (fun b => b < w.heap.size) W2 v (u8s b)) := hid (HV.out.keep hk (fun b _ h1 h2 => by omega))
    have BL' : Hd (Blk W2 w.heap.size #[(.int .u64 (k : Int)), (.int .i64 i)] 33) := hid (blk_keep BL.out hk (fun h => by omega))
    clear HV BL
    have HV := HV'
    clear HV'
    have BL := BL'
    clear BL'
    clear BR
    have BR := N_BR
    clear N_BR
    have HK' : Hd (Keeps (fun _ => False) w W2) := hid (HK.out.trans' hk (fun i hi h => by omega))
    clear HK
    have HK := HK'
    clear HK'
    have z_W2 := hk.size
    clear hk
    go_wp2
    have rr_BR_0 := blk_cell BR.out 0
    have rr_BR_1 := blk_cell BR.out 1
    refine bodyPost_ret (v := .tuple #[.int .u64 (t : Int), .agg #[(.int .u64 (s : Int)), (.int .i64 (i + 1))]]) (by simp [results, Tryd.results50, go_sem, rr_BR_0, rr_BR_1]) rfl ?_
    exact ⟨rfl, HK.out⟩
end Go.Proofs.YthoikljmokkchaaDoor
