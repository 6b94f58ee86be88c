/- Frames: FrA, FrB, FrC, FrD, FrE, FrF: walks and plain facts. -/
import Derived.Test.YthoikljmokkchaaDoorHashAll
import Derived.Test.YthoikljmokkchaaDoorHeld
import Derived.Deep.RegionHeld
import Derived.Deep.CutRange
import Derived.Test.YthoikljmokkchaaDoorWireAll
import Derived.Test.YthoikljmokkchaaDoorCrcAll
import Derived.Test.YthoikljmokkchaaDoorStepRow
namespace Go.Proofs.YthoikljmokkchaaDoor
open Go.RowKit
theorem blkset2 {X : World} {b : Nat} {T : TypeId} {c0 c1 u0 u1 : Value} (h : Blk X b #[c0, c1] T) : Blk ((X.setCell ⟨b, 0, none⟩ u0).setCell ⟨b, 1, none⟩ u1) b #[u0, u1] T := by
  have h := (blk_set (blk_set h 0 u0) 1 u1)
  simp only [List.setIfInBounds_toArray, List.set_cons_zero, List.set_cons_succ] at h
  exact h
theorem blkset4 {X : World} {b : Nat} {T : TypeId} {c0 c1 c2 c3 u0 u1 u2 u3 : Value} (h : Blk X b #[c0, c1, c2, c3] T) : Blk ((((X.setCell ⟨b, 0, none⟩ u0).setCell ⟨b, 1, none⟩ u1).setCell ⟨b, 2, none⟩ u2).setCell ⟨b, 3, none⟩ u3) b #[u0, u1, u2, u3] T := by
  have h := (blk_set (blk_set (blk_set (blk_set h 0 u0) 1 u1) 2 u2) 3 u3)
  simp only [List.setIfInBounds_toArray, List.set_cons_zero, List.set_cons_succ] at h
  exact h
theorem blkset5 {X : World} {b : Nat} {T : TypeId} {c0 c1 c2 c3 c4 u0 u1 u2 u3 u4 : Value} (h : Blk X b #[c0, c1, c2, c3, c4] T) : Blk (((((X.setCell ⟨b, 0, none⟩ u0).setCell ⟨b, 1, none⟩ u1).setCell ⟨b, 2, none⟩ u2).setCell ⟨b, 3, none⟩ u3).setCell ⟨b, 4, none⟩ u4) b #[u0, u1, u2, u3, u4] T := by
  have h := (blk_set (blk_set (blk_set (blk_set (blk_set h 0 u0) 1 u1) 2 u2) 3 u3) 4 u4)
  simp only [List.setIfInBounds_toArray, List.set_cons_zero, List.set_cons_succ] at h
  exact h
def iterN : Nat → Nat → Nat
  | 0, k => k
  | n + 1, k => stepN (iterN n k)
theorem iterN_lt {k : Nat} (h : k < 18446744073709551616) : ∀ n, iterN n k < 18446744073709551616
  | 0 => h
  | n + 1 => stepN_lt _
structure Ld where
  k : Nat
  i : Int
structure Ld.ok (l : Ld) : Prop where
  k : l.k < 18446744073709551616
  i0 : 0 ≤ l.i
  i1 : l.i ≤ 1000000000000
set_option maxRecDepth 100000 in set_option maxHeartbeats 1000000 in
theorem after_any (k : Nat) (i : Int) (n : Nat) (w : World) (hk : k < 18446744073709551616) (h0 : 0 ≤ i) (h1 : i ≤ 2000000000000) (hn : n ≤ 1000000000000) :
    Calls Tryd.prog 80 #[.agg #[.int .u64 (k : Int), .int .i64 i], .int .i64 (n : Int)] w fun e w' => e = .returned (.agg #[.int .u64 (iterN n k : Nat), .int .i64 (i + n)]) ∧ Keeps (fun _ => False) w w' := by
  have HKK := hid hk
  clear hk
  go_enter Tryd.func80, Tryd.ntmps80
  go_upto_region 1 with fail
  generalize hW : World.alloc (World.alloc w _) _ = W1
  have KS : Hd (Keeps (fun _ => False) w W1) := hid (by rw [← hW]; exact (Keeps.alloc (Keeps.alloc (Keeps.refl (fun _ => False) w) _) _))
  have BL : Hd (Blk W1 w.heap.size #[(.int .u64 (k : Int)), (.int .i64 i)] 33) := hid (by rw [← hW]; exact (blk_alloc (blk_new _ _ _) _))
  have BR : Hd (Blk W1 (w.heap.size + 1) #[(.int .u64 0), (.int .i64 0)] 33) := hid (by rw [← hW]; exact (blk_new' _ _ _ _ (by simp)))
  have HK : Hd (Keeps (fun _ => False) w W1) := hid KS.out
  have z_W1 : w.heap.size + 2 ≤ W1.heap.size := by rw [← hW]; simp
  clear hW KS
  go_wp2_with fail
  go_loopw [6] (fun iv wr => ∃ j : Nat, iv = .int .i64 (j : Int) ∧ j ≤ n ∧ Hd (Blk wr w.heap.size #[.int .u64 ((iterN j k : Nat) : Int), .int .i64 i] 33) ∧ Hd (Keeps (fun b => b = w.heap.size) W1 wr)) (fun iv _ => n - (intOf iv).toNat)
  case atStart => exact ⟨0, rfl, Nat.zero_le _, BL, hid (Keeps.refl _ _)⟩
  case round =>
    obtain ⟨X, rfl⟩ : ∃ X, X = wr := ⟨_, rfl⟩
    obtain ⟨j, rfl, hj, HB, HX⟩ := hrel
    clear BL
    by_cases hlt : j < n
    · have q1 : (j : Int) < n := by omega
      have q2 : (0 : Int) ≤ j := by omega
      have HL := hid (iterN_lt HKK.out j)
      have HS : Hd (iterN (j + 1) k = stepN (iterN j k)) := hid rfl
      generalize iterN j k = x at *
      have o0 : X.cell? ⟨w.heap.size, 0, none⟩ = some (.int .u64 (x : Int)) := blk_cell HB.out 0
      have o1 : X.frozen? ⟨w.heap.size, 0, none⟩ = false := blk_free HB.out 0
      go_wp2_with fail
      refine (Step_any x HL.out _).mono ?_
      rintro e w1 ⟨rfl, rfl⟩
      rw [← HS.out]
      obtain ⟨y, hy⟩ : ∃ y, iterN (j + 1) k = y := ⟨_, rfl⟩
      rw [hy]
      have HY := hid hy
      clear hy
      go_wp2
      go_roundw
      case rel => exact ⟨j + 1, by go_num, by omega, hid (by rw [HY.out]; exact blk_set HB.out 0 _), hid (HX.out.setCell (.inl rfl) _)⟩
      case measure => simp [intOf]; omega
    · have hjn : j = n := by omega
      have q1 : ¬ ((j : Int) < n) := by omega
      subst hjn
      obtain ⟨x, hx⟩ : ∃ x, iterN j k = x := ⟨_, rfl⟩
      rw [hx] at HB
      have HXX := hid hx
      clear hx
      have o0 : X.cell? ⟨w.heap.size, 0, none⟩ = some (.int .u64 (x : Int)) := blk_cell HB.out 0
      have o1 : X.cell? ⟨w.heap.size, 1, none⟩ = some (.int .i64 i) := blk_cell HB.out 1
      have o2 : X.frozen? ⟨w.heap.size, 1, none⟩ = false := blk_free HB.out 1
      have hw : IntKind.i64.wrap (i + (j : Int)) = i + (j : Int) := IntWalk.i64_in _ (by omega)
      have BX := hid (blk_keep BR.out HX.out (fun h => by omega))
      have p0 : X.cell? ⟨w.heap.size + 1, 0, none⟩ = some (.int .u64 0) := blk_cell BX.out 0
      have p1 : X.cell? ⟨w.heap.size + 1, 1, none⟩ = some (.int .i64 0) := blk_cell BX.out 1
      have p2 : X.frozen? ⟨w.heap.size + 1, 0, none⟩ = false := blk_free BX.out 0
      have p3 : X.frozen? ⟨w.heap.size + 1, 1, none⟩ = false := blk_free BX.out 1
      have HK2 : Hd (Keeps (fun _ => False) w X) := hid (HK.out.trans' HX.out (fun b hb h => by omega))
      go_wp2
      obtain ⟨HV2, B3⟩ := fin2 (HK2.out.setCell (p := ⟨w.heap.size, 1, none⟩) (.inr (Nat.le_refl _)) (.int .i64 (i + (j : Int)))) (show w.heap.size ≤ w.heap.size + 1 by omega) (blk_other BX.out (by omega) _ _) (.int .u64 (x : Int)) (.int .i64 (i + (j : Int)))
      have r0 := blk_cell B3 0
      have r1 := blk_cell B3 1
      refine bodyPost_ret (v := .agg #[.int .u64 (x : Int), .int .i64 (i + (j : Int))]) (by simp [results, Tryd.results80, go_sem, r0, r1]) rfl ?_
      exact ⟨by rw [HXX.out], HV2⟩
def nextL (l : Ld) : Ld := ⟨stepN l.k, l.i + 1⟩
set_option maxRecDepth 100000 in set_option maxHeartbeats 1000000 in
theorem LSign_any (l : Ld) (K : Nat → Prop) (v : Value) (b : List Nat) (w : World) (hl : l.ok) (hv : Sl K w v (u8s b)) (hb : ∀ c ∈ b, c < 256) (hm : b.length ≤ 140737488355200) :
    Calls Tryd.prog 50 #[.agg #[.int .u64 (l.k : Int), .int .i64 l.i], v] w fun e w' => e = .returned (.tuple #[.int .u64 (tagN l.k b : Nat), .agg #[.int .u64 (stepN l.k : Nat), .int .i64 (l.i + 1)]]) ∧ Keeps (fun _ => False) w w' := by
  obtain ⟨k, i⟩ := l
  obtain ⟨hk, hi0, hi1⟩ := hl
  simp only [] at hk hi0 hi1 ⊢
  have HKK := hid hk; have HV := hid (hv.mono (K' := fun b => b < w.heap.size) (fun b h _ => h)); have HB := hid hb; have HM := hid hm
  clear hk hv hb hm
  obtain ⟨t, ht⟩ : ∃ t, tagN k b = t := ⟨_, rfl⟩
  rw [ht]
  have HT := hid ht
  clear ht
  obtain ⟨s, hs⟩ : ∃ s, stepN k = s := ⟨_, rfl⟩
  rw [hs]
  have HS : Hd (iterN 1 k = s) := hid hs
  clear hs
  go_enter Tryd.func50, Tryd.ntmps50
  go_upto_region 1 with fail
  generalize hW : World.alloc (World.alloc w _) _ = W1
  have KS : Hd (Keeps (fun _ => False) w W1) := hid (by rw [← hW]; exact (Keeps.alloc (Keeps.alloc (Keeps.refl (fun _ => False) w) _) _))
  have HV' : Hd (Sl (fun b => b < w.heap.size) W1 v (u8s b)) := hid (HV.out.keep KS.out (fun _ _ _ h => h))
  have BL : Hd (Blk W1 w.heap.size #[(.int .u64 (k : Int)), (.int .i64 i)] 33) := hid (by rw [← hW]; exact (blk_alloc (blk_new _ _ _) _))
  have BR : Hd (Blk W1 (w.heap.size + 1) #[(.int .u64 0), (.int .i64 0)] 33) := hid (by rw [← hW]; exact (blk_new' _ _ _ _ (by simp)))
  clear HV
  have HV := HV'
  clear HV'
  have HK : Hd (Keeps (fun _ => False) w W1) := hid KS.out
  have z_W1 : w.heap.size + 2 ≤ W1.heap.size := by rw [← hW]; simp
  clear hW KS
  go_cut [4] from 6 to 11 (fun u4 wx => u4 = .int .u64 (t : Int) ∧ Hd (Blk wx (w.heap.size + 1) #[(.int .u64 (s : Int)), (.int .i64 (i + 1))] 33) ∧ Hd (Keeps (fun b => b = w.heap.size + 1) W1 wx))
  case first =>
    have KC : Hd (Keeps (fun _ => False) W1 W1) := hid (Keeps.refl _ _)
    have HSS : Hd (∀ w', Keeps (fun b => b = w.heap.size + 1) W1 w' → (w'.cell? ⟨w.heap.size, 0, none⟩ = some ((.int .u64 (k : Int))) ∧ w'.cell? ⟨w.heap.size, 1, none⟩ = some ((.int .i64 i)))) := hid (fun w' hk => ⟨blk_cell (blk_keep BL.out hk (fun h => by omega)) 0, blk_cell (blk_keep BL.out hk (fun h => by omega)) 1⟩)
    have HTA : Hd (∀ X, Keeps (fun _ => False) W1 X → Calls Tryd.prog 79 #[.int .u64 (k : Int), v] X fun e w' => e = .returned (.int .u64 (t : Int)) ∧ Keeps (fun _ => False) X w') := hid (fun X hx => by have h := Tag_any _ k _ b X HKK.out (HV.out.keep hx (fun _ _ _ h => h)) HB.out HM.out; rw [HT.out] at h; exact h)
    have HAF : Hd (∀ X, Calls Tryd.prog 80 #[.agg #[.int .u64 (k : Int), .int .i64 i], .int .i64 1] X fun e w' => e = .returned (.agg #[.int .u64 (s : Int), .int .i64 (i + 1)]) ∧ Keeps (fun _ => False) X w') := hid (fun X => by have h := after_any k i 1 X HKK.out hi0 (by omega) (by omega); rw [HS.out] at h; exact h)
    have sF_BR_0 : W1.cell? ⟨(w.heap.size + 1), 0, none⟩ = some ((.int .u64 0)) := blk_cell (blk_keep BR.out KC.out (fun h => h)) 0
    have sG_BR_0 : W1.frozen? ⟨(w.heap.size + 1), 0, none⟩ = false := blk_free (blk_keep BR.out KC.out (fun h => h)) 0
    have sF_BR_1 : W1.cell? ⟨(w.heap.size + 1), 1, none⟩ = some ((.int .i64 0)) := blk_cell (blk_keep BR.out KC.out (fun h => h)) 1
    have sG_BR_1 : W1.frozen? ⟨(w.heap.size + 1), 1, none⟩ = false := blk_free (blk_keep BR.out KC.out (fun h => h)) 1
    have LB_BR : ∀ X, Blk X (w.heap.size + 1) #[(.int .u64 0), (.int .i64 0)] 33 → Blk ((X.setCell ⟨(w.heap.size + 1), 0, none⟩ (.int .u64 (s : Int))).setCell ⟨(w.heap.size + 1), 1, none⟩ (.int .i64 (i + 1))) (w.heap.size + 1) #[(.int .u64 (s : Int)), (.int .i64 (i + 1))] 33 := fun X h => (blk_set (blk_set h 0 _) 1 _)
    go_region_held (fun w' => w'.cell? ⟨w.heap.size, 0, none⟩ = some ((.int .u64 (k : Int))) ∧ w'.cell? ⟨w.heap.size, 1, none⟩ = some ((.int .i64 i))) (exact HSS.out _ (by repeat (first | (with_reducible refine Keeps.setCell (S := fun b => b = w.heap.size + 1) ?_ (.inl (by simp)) _) | (with_reducible apply Keeps.drewN) | (with_reducible apply Keeps.drew) | (with_reducible exact KC.out) | (with_reducible exact Keeps.refl _ _) | (with_reducible exact KC.out.mono (fun _ _ h => h.elim)))))
      (first
      | (go_at_call 79; (refine (HTA.out _ (by repeat (first | (with_reducible exact KC.out) | (with_reducible exact Keeps.refl _ _) | (with_reducible apply Keeps.drewN) | (with_reducible apply Keeps.drew) | (with_reducible apply Keeps.alloc)))).mono ?_); rintro e wy0 ⟨rfl, hk⟩; have KC2 : Hd (Keeps (fun _ => False) W1 wy0) := hid (Keeps.trans (S := fun _ => False) (by repeat (first | (with_reducible exact KC.out) | (with_reducible exact Keeps.refl _ _) | (with_reducible apply Keeps.drewN) | (with_reducible apply Keeps.drew) | (with_reducible apply Keeps.alloc))) hk); have zc := KC.out.size; have zk := hk.size; (try simp at zk); replace KC := KC2; clear KC2; have sF_BR_0 : wy0.cell? ⟨(w.heap.size + 1), 0, none⟩ = some ((.int .u64 0)) := blk_cell (blk_keep BR.out KC.out (fun h => h)) 0; have sG_BR_0 : wy0.frozen? ⟨(w.heap.size + 1), 0, none⟩ = false := blk_free (blk_keep BR.out KC.out (fun h => h)) 0; have sF_BR_1 : wy0.cell? ⟨(w.heap.size + 1), 1, none⟩ = some ((.int .i64 0)) := blk_cell (blk_keep BR.out KC.out (fun h => h)) 1; have sG_BR_1 : wy0.frozen? ⟨(w.heap.size + 1), 1, none⟩ = false := blk_free (blk_keep BR.out KC.out (fun h => h)) 1; replace hk := hid hk)
      | (go_at_call 80; (refine (HAF.out _).mono ?_); rintro e wy1 ⟨rfl, hk⟩; have KC2 : Hd (Keeps (fun _ => False) W1 wy1) := hid (Keeps.trans (S := fun _ => False) (by repeat (first | (with_reducible exact KC.out) | (with_reducible exact Keeps.refl _ _) | (with_reducible apply Keeps.drewN) | (with_reducible apply Keeps.drew) | (with_reducible apply Keeps.alloc))) hk); have zc := KC.out.size; have zk := hk.size; (try simp at zk); replace KC := KC2; clear KC2; have sF_BR_0 : wy1.cell? ⟨(w.heap.size + 1), 0, none⟩ = some ((.int .u64 0)) := blk_cell (blk_keep BR.out KC.out (fun h => h)) 0; have sG_BR_0 : wy1.frozen? ⟨(w.heap.size + 1), 0, none⟩ = false := blk_free (blk_keep BR.out KC.out (fun h => h)) 0; have sF_BR_1 : wy1.cell? ⟨(w.heap.size + 1), 1, none⟩ = some ((.int .i64 0)) := blk_cell (blk_keep BR.out KC.out (fun h => h)) 1; have sG_BR_1 : wy1.frozen? ⟨(w.heap.size + 1), 1, none⟩ = false := blk_free (blk_keep BR.out KC.out (fun h => h)) 1; replace hk := hid hk))
    all_goals
      go_wp2_with fail
      go_meet
      exact ⟨rfl, hid (by repeat (first | (with_reducible refine LB_BR _ ?_) | (with_reducible refine blk_other ?_ (by first | omega | (simp only [World.size_alloc, World.size_drew]; omega)) _ _) | (with_reducible apply blk_drewN) | (with_reducible apply blk_drew) | (with_reducible refine blk_alloc ?_ _) | (with_reducible exact blk_keep BR.out KC.out (fun h => h)))), hid (by repeat (first | (with_reducible refine Keeps.setCell (S := fun b => b = w.heap.size + 1) ?_ (.inl (by simp)) _) | (with_reducible apply Keeps.drewN) | (with_reducible apply Keeps.drew) | (with_reducible exact KC.out) | (with_reducible exact Keeps.refl _ _) | (with_reducible exact KC.out.mono (fun _ _ h => h.elim))))⟩
  case rest =>
    obtain ⟨rfl, N_BR, hk⟩ := hcut
    replace hk := hk.out
    generalize wc = W2 at *
    have HV' : Hd (Sl (fun b => b < w.heap.size) W2 v (u8s b)) := hid (HV.out.keep hk (fun b _ h1 h2 => by omega))
    have BL' : Hd (Blk W2 w.heap.size #[(.int .u64 (k : Int)), (.int .i64 i)] 33) := hid (blk_keep BL.out hk (fun h => by omega))
    clear HV BL
    have HV := HV'
    clear HV'
    have BL := BL'
    clear BL'
    clear BR
    have BR := N_BR
    clear N_BR
    have HK' : Hd (Keeps (fun _ => False) w W2) := hid (HK.out.trans' hk (fun i hi h => by omega))
    clear HK
    have HK := HK'
    clear HK'
    have z_W2 := hk.size
    clear hk
    go_wp2
    have rr_BR_0 := blk_cell BR.out 0
    have rr_BR_1 := blk_cell BR.out 1
    refine bodyPost_ret (v := .tuple #[.int .u64 (t : Int), .agg #[(.int .u64 (s : Int)), (.int .i64 (i + 1))]]) (by simp [results, Tryd.results50, go_sem, rr_BR_0, rr_BR_1]) rfl ?_
    exact ⟨rfl, HK.out⟩
end Go.Proofs.YthoikljmokkchaaDoor
namespace Go.Proofs.YthoikljmokkchaaDoor
open Go.RowKit
def acceptL (l : Ld) (idx : Int) (b : List Nat) (tag : Nat) : Ld × Int := if idx < l.i ∨ l.i + 4096 < idx then (⟨0, 0⟩, 30) else if tagN (iterN (idx - l.i).toNat l.k) b ≠ tag then (⟨0, 0⟩, 8) else (⟨stepN (iterN (idx - l.i).toNat l.k), idx + 1⟩, 0)
theorem accept_key {l : Ld} {idx : Int} (b : List Nat) (tag : Nat) (h : idx < l.i ∨ l.i + 4096 < idx) : acceptL l idx b tag = (⟨0, 0⟩, 30) := by unfold acceptL; rw [if_pos h]
theorem accept_sum {l : Ld} {idx : Int} {b : List Nat} {tag : Nat} (h : ¬ (idx < l.i ∨ l.i + 4096 < idx)) (h2 : tagN (iterN (idx - l.i).toNat l.k) b ≠ tag) : acceptL l idx b tag = (⟨0, 0⟩, 8) := by unfold acceptL; rw [if_neg h, if_pos h2]
theorem accept_ok {l : Ld} {idx : Int} {b : List Nat} {tag : Nat} (h : ¬ (idx < l.i ∨ l.i + 4096 < idx)) (h2 : tagN (iterN (idx - l.i).toNat l.k) b = tag) : acceptL l idx b tag = (⟨stepN (iterN (idx - l.i).toNat l.k), idx + 1⟩, 0) := by unfold acceptL; rw [if_neg h, if_neg (fun hn => hn h2)]
def AccPost (w : World) (r : Ld × Int) (e : Ending) (w' : World) : Prop := e = .returned (.tuple #[.agg #[.int .u64 (r.1.k : Int), .int .i64 r.1.i], .int .i64 r.2]) ∧ Keeps (fun _ => False) w w'
theorem acc_mk {w w' : World} {r r' : Ld × Int} (h : r = r') (hk : Keeps (fun _ => False) w w') : AccPost w r (.returned (.tuple #[.agg #[.int .u64 (r'.1.k : Int), .int .i64 r'.1.i], .int .i64 r'.2])) w' := by subst h; exact ⟨rfl, hk⟩
set_option maxRecDepth 100000 in set_option maxHeartbeats 1000000 in
theorem Accept_any (l : Ld) (idx : Int) (tag : Nat) (K : Nat → Prop) (v : Value) (b : List Nat) (w : World) (hl : l.ok) (hx0 : -9223372036854775808 ≤ idx) (hx1 : idx ≤ 9223372036854775807) (hv : Sl K w v (u8s b)) (hb : ∀ c ∈ b, c < 256) (hm : b.length ≤ 140737488355200) :
    Calls Tryd.prog 67 #[.agg #[.int .u64 (l.k : Int), .int .i64 l.i], .int .i64 idx, v, .int .u64 (tag : Int)] w fun e w' => AccPost w (acceptL l idx b tag) e w' := by
  have A30 := hid (fun h => accept_key (l := l) (idx := idx) b tag h); have A8 := hid (fun h h2 => accept_sum (l := l) (idx := idx) (b := b) (tag := tag) h h2); have A0 := hid (fun h h2 => accept_ok (l := l) (idx := idx) (b := b) (tag := tag) h h2)
  obtain ⟨k, i⟩ := l
  obtain ⟨hk, hi0, hi1⟩ := hl
  simp only [] at hk hi0 hi1 ⊢
  have HKK := hid hk; have HV := hid (hv.mono (K' := fun b => b < w.heap.size) (fun b h _ => h)); have HB := hid hb; have HM := hid hm
  clear hk hv hb hm
  obtain ⟨R, hR⟩ : ∃ R, acceptL ⟨k, i⟩ idx b tag = R := ⟨_, rfl⟩
  rw [hR] at A30 A8 A0 ⊢
  clear hR
  go_enter Tryd.func67, Tryd.ntmps67
  go_upto_region 1 with fail
  generalize hW : World.alloc (World.alloc w _) _ = W1
  have KS : Hd (Keeps (fun _ => False) w W1) := hid (by rw [← hW]; exact (Keeps.alloc (Keeps.alloc (Keeps.refl (fun _ => False) w) _) _))
  have HV' : Hd (Sl (fun b => b < w.heap.size) W1 v (u8s b)) := hid (HV.out.keep KS.out (fun _ _ _ h => h))
  have BL : Hd (Blk W1 w.heap.size #[(.int .u64 (k : Int)), (.int .i64 i)] 33) := hid (by rw [← hW]; exact (blk_alloc (blk_new _ _ _) _))
  have BR : Hd (Blk W1 (w.heap.size + 1) #[(.int .u64 0), (.int .i64 0)] 33) := hid (by rw [← hW]; exact (blk_new' _ _ _ _ (by simp)))
  clear HV
  have HV := HV'
  clear HV'
  have HK : Hd (Keeps (fun _ => False) w W1) := hid KS.out
  have z_W1 : w.heap.size + 2 ≤ W1.heap.size := by rw [← hW]; simp
  clear hW KS
  by_cases h1 : idx < i
  · have d1 : decide (idx < i) = true := by simp; exact h1
    have o_BL_0 : W1.cell? ⟨w.heap.size, 0, none⟩ = some ((.int .u64 (k : Int))) := blk_cell BL.out 0
    have o_BL_1 : W1.cell? ⟨w.heap.size, 1, none⟩ = some ((.int .i64 i)) := blk_cell BL.out 1
    have o_BR_0 : W1.cell? ⟨w.heap.size + 1, 0, none⟩ = some ((.int .u64 0)) := blk_cell BR.out 0
    have o_BR_1 : W1.cell? ⟨w.heap.size + 1, 1, none⟩ = some ((.int .i64 0)) := blk_cell BR.out 1
    have f_BR_0 : W1.frozen? ⟨w.heap.size + 1, 0, none⟩ = false := blk_free BR.out 0
    have f_BR_1 : W1.frozen? ⟨w.heap.size + 1, 1, none⟩ = false := blk_free BR.out 1
    go_wp2
    clear o_BL_0 o_BL_1 o_BR_0 o_BR_1 f_BR_0 f_BR_1
    obtain ⟨HV2, B3⟩ := fin2 HK.out (show w.heap.size ≤ w.heap.size + 1 by omega) BR.out (.int .u64 0) (.int .i64 0)
    have r0 := blk_cell B3 0
    have r1 := blk_cell B3 1
    refine bodyPost_ret (v := .tuple #[.agg #[(.int .u64 0), (.int .i64 0)], .int .i64 30]) (by simp [results, Tryd.results67, go_sem, r0, r1]) rfl ?_
    exact acc_mk (A30.out (.inl h1)) HV2
  · have d1 : decide (idx < i) = false := by simp; omega
    have hw1 : IntKind.i64.wrap (i + 4096) = i + 4096 := IntWalk.i64_in _ (by omega)
    by_cases h2 : i + 4096 < idx
    · have d2 : decide (i + 4096 < idx) = true := by simp; exact h2
      have o_BL_0 : W1.cell? ⟨w.heap.size, 0, none⟩ = some ((.int .u64 (k : Int))) := blk_cell BL.out 0
      have o_BL_1 : W1.cell? ⟨w.heap.size, 1, none⟩ = some ((.int .i64 i)) := blk_cell BL.out 1
      have o_BR_0 : W1.cell? ⟨w.heap.size + 1, 0, none⟩ = some ((.int .u64 0)) := blk_cell BR.out 0
      have o_BR_1 : W1.cell? ⟨w.heap.size + 1, 1, none⟩ = some ((.int .i64 0)) := blk_cell BR.out 1
      have f_BR_0 : W1.frozen? ⟨w.heap.size + 1, 0, none⟩ = false := blk_free BR.out 0
      have f_BR_1 : W1.frozen? ⟨w.heap.size + 1, 1, none⟩ = false := blk_free BR.out 1
      go_wp2
      clear o_BL_0 o_BL_1 o_BR_0 o_BR_1 f_BR_0 f_BR_1
      obtain ⟨HV2, B3⟩ := fin2 HK.out (show w.heap.size ≤ w.heap.size + 1 by omega) BR.out (.int .u64 0) (.int .i64 0)
      have r0 := blk_cell B3 0
      have r1 := blk_cell B3 1
      refine bodyPost_ret (v := .tuple #[.agg #[(.int .u64 0), (.int .i64 0)], .int .i64 30]) (by simp [results, Tryd.results67, go_sem, r0, r1]) rfl ?_
      exact acc_mk (A30.out (.inr h2)) HV2
    · have d2 : decide (i + 4096 < idx) = false := by simp; omega
      have HNN : Hd (¬ (idx < i ∨ i + 4096 < idx)) := hid (by omega)
      obtain ⟨n, hn⟩ : ∃ n : Nat, idx - i = (n : Int) := ⟨(idx - i).toNat, by omega⟩
      have hn2 : n ≤ 4096 := by omega
      have HNI : Hd (idx = i + (n : Int)) := hid (by omega)
      have HTN : Hd ((idx - i).toNat = n) := hid (by omega)
      have hw2 : IntKind.i64.wrap (idx - i) = (n : Int) := by rw [hn]; exact IntWalk.i64_in _ (by omega)
      clear hn
      obtain ⟨x, hx⟩ : ∃ x, iterN n k = x := ⟨_, rfl⟩
      have HX := hid hx
      have HXL : Hd (x < 18446744073709551616) := hid (by rw [← hx]; exact iterN_lt HKK.out n)
      clear hx
      have o_BL_0 : W1.cell? ⟨w.heap.size, 0, none⟩ = some ((.int .u64 (k : Int))) := blk_cell BL.out 0
      have o_BL_1 : W1.cell? ⟨w.heap.size, 1, none⟩ = some ((.int .i64 i)) := blk_cell BL.out 1
      have f_BL_0 : W1.frozen? ⟨w.heap.size, 0, none⟩ = false := blk_free BL.out 0
      have f_BL_1 : W1.frozen? ⟨w.heap.size, 1, none⟩ = false := blk_free BL.out 1
      go_wp2_with fail
      try rw [hw2]
      refine (after_any k i n _ HKK.out hi0 (by omega) (by omega)).mono ?_
      rw [HX.out, ← HNI.out]
      rintro e W2 ⟨rfl, hk⟩
      clear hw1 hw2 d1 d2
      clear o_BL_0 o_BL_1 f_BL_0 f_BL_1
      have HV' : Hd (Sl (fun b => b < w.heap.size) W2 v (u8s b)) := hid (HV.out.keep hk (fun _ _ _ h => h))
      have BL' : Hd (Blk W2 w.heap.size #[(.int .u64 (k : Int)), (.int .i64 i)] 33) := hid (blk_keep BL.out hk (fun h => h))
      have BR' : Hd (Blk W2 (w.heap.size + 1) #[(.int .u64 0), (.int .i64 0)] 33) := hid (blk_keep BR.out hk (fun h => h))
      clear HV BL BR
      have HV := HV'
      clear HV'
      have BL := BL'
      clear BL'
      have BR := BR'
      clear BR'
      have HK' : Hd (Keeps (fun _ => False) w W2) := hid (HK.out.trans hk)
      clear HK
      have HK := HK'
      clear HK'
      have z_W2 := hk.size
      clear hk
      have o_BL_0 : W2.cell? ⟨w.heap.size, 0, none⟩ = some ((.int .u64 (k : Int))) := blk_cell BL.out 0
      have o_BL_1 : W2.cell? ⟨w.heap.size, 1, none⟩ = some ((.int .i64 i)) := blk_cell BL.out 1
      have f_BL_0 : W2.frozen? ⟨w.heap.size, 0, none⟩ = false := blk_free BL.out 0
      have f_BL_1 : W2.frozen? ⟨w.heap.size, 1, none⟩ = false := blk_free BL.out 1
      go_upto_region 4 with fail
      clear o_BL_0 o_BL_1 f_BL_0 f_BL_1
      generalize hW : World.setCell (World.setCell W2 _ _) _ _ = W3
      have KS : Hd (Keeps (fun b => b = w.heap.size) W2 W3) := hid (by rw [← hW]; exact (Keeps.setCell (S := fun b => b = w.heap.size) (Keeps.setCell (S := fun b => b = w.heap.size) (Keeps.refl (fun b => b = w.heap.size) W2) (.inl rfl) _) (.inl rfl) _))
      have HV' : Hd (Sl (fun b => b < w.heap.size) W3 v (u8s b)) := hid (HV.out.keep KS.out (fun b _ h1 h2 => by omega))
      have BL' : Hd (Blk W3 w.heap.size #[(.int .u64 (x : Int)), (.int .i64 idx)] 33) := hid (by rw [← hW]; exact (blk_set (blk_set BL.out 0 _) 1 _))
      have BR' : Hd (Blk W3 (w.heap.size + 1) #[(.int .u64 0), (.int .i64 0)] 33) := hid (by rw [← hW]; exact (blk_other (blk_other BR.out (by omega) _ _) (by omega) _ _))
      clear HV BL BR
      have HV := HV'
      clear HV'
      have BL := BL'
      clear BL'
      have BR := BR'
      clear BR'
      have HK' : Hd (Keeps (fun _ => False) w W3) := hid (HK.out.trans' KS.out (fun i hi h => by omega))
      clear HK
      have HK := HK'
      clear HK'
      have z_W3 : W2.heap.size + 0 ≤ W3.heap.size := by rw [← hW]; simp
      clear hW KS
      have o_BL_0 : W3.cell? ⟨w.heap.size, 0, none⟩ = some ((.int .u64 (x : Int))) := blk_cell BL.out 0
      have o_BL_1 : W3.cell? ⟨w.heap.size, 1, none⟩ = some ((.int .i64 idx)) := blk_cell BL.out 1
      obtain ⟨t, ht⟩ : ∃ t, tagN x b = t := ⟨_, rfl⟩
      have HT := hid ht
      clear ht
      go_wp2_with fail
      refine (Tag_any _ x _ b _ HXL.out HV.out HB.out HM.out).mono ?_
      rw [HT.out]
      rintro e W4 ⟨rfl, hk⟩
      clear o_BL_0 o_BL_1
      have HV' : Hd (Sl (fun b => b < w.heap.size) W4 v (u8s b)) := hid (HV.out.keep hk (fun _ _ _ h => h))
      have BL' : Hd (Blk W4 w.heap.size #[(.int .u64 (x : Int)), (.int .i64 idx)] 33) := hid (blk_keep BL.out hk (fun h => h))
      have BR' : Hd (Blk W4 (w.heap.size + 1) #[(.int .u64 0), (.int .i64 0)] 33) := hid (blk_keep BR.out hk (fun h => h))
      clear HV BL BR
      have HV := HV'
      clear HV'
      have BL := BL'
      clear BL'
      have BR := BR'
      clear BR'
      have HK' : Hd (Keeps (fun _ => False) w W4) := hid (HK.out.trans hk)
      clear HK
      have HK := HK'
      clear HK'
      have z_W4 := hk.size
      clear hk
      by_cases h3 : t = tag
      · have d3 : ((t : Int) != (tag : Int)) = false := by simp; omega
        have d3b : ((tag : Int) != (t : Int)) = false := by simp; omega
        have HA := hid (A0.out HNN.out (by rw [HTN.out, HX.out, HT.out]; exact h3))
        clear A0 A8 A30 h3
        have o_BL_0 : W4.cell? ⟨w.heap.size, 0, none⟩ = some ((.int .u64 (x : Int))) := blk_cell BL.out 0
        have o_BL_1 : W4.cell? ⟨w.heap.size, 1, none⟩ = some ((.int .i64 idx)) := blk_cell BL.out 1
        go_wp2_with fail
        refine (after_any x idx 1 _ HXL.out (by omega) (by omega) (by omega)).mono ?_
        rintro e W5 ⟨rfl, hk⟩
        clear o_BL_0 o_BL_1
        have HV' : Hd (Sl (fun b => b < w.heap.size) W5 v (u8s b)) := hid (HV.out.keep hk (fun _ _ _ h => h))
        have BL' : Hd (Blk W5 w.heap.size #[(.int .u64 (x : Int)), (.int .i64 idx)] 33) := hid (blk_keep BL.out hk (fun h => h))
        have BR' : Hd (Blk W5 (w.heap.size + 1) #[(.int .u64 0), (.int .i64 0)] 33) := hid (blk_keep BR.out hk (fun h => h))
        clear HV BL BR
        have HV := HV'
        clear HV'
        have BL := BL'
        clear BL'
        have BR := BR'
        clear BR'
        have HK' : Hd (Keeps (fun _ => False) w W5) := hid (HK.out.trans hk)
        clear HK
        have HK := HK'
        clear HK'
        have z_W5 := hk.size
        clear hk
        have o_BR_0 : W5.cell? ⟨w.heap.size + 1, 0, none⟩ = some ((.int .u64 0)) := blk_cell BR.out 0
        have o_BR_1 : W5.cell? ⟨w.heap.size + 1, 1, none⟩ = some ((.int .i64 0)) := blk_cell BR.out 1
        have f_BR_0 : W5.frozen? ⟨w.heap.size + 1, 0, none⟩ = false := blk_free BR.out 0
        have f_BR_1 : W5.frozen? ⟨w.heap.size + 1, 1, none⟩ = false := blk_free BR.out 1
        obtain ⟨y, hy⟩ : ∃ y, (iterN 1 x) = y := ⟨_, rfl⟩
        rw [hy]
        have HY : Hd (stepN x = y) := hid hy
        clear hy
        go_wp2
        clear o_BR_0 o_BR_1 f_BR_0 f_BR_1
        obtain ⟨HV2, B3⟩ := fin2 HK.out (show w.heap.size ≤ w.heap.size + 1 by omega) BR.out (.int .u64 (y : Int)) (.int .i64 (idx + 1))
        have r0 := blk_cell B3 0
        have r1 := blk_cell B3 1
        refine bodyPost_ret (v := .tuple #[.agg #[(.int .u64 (y : Int)), (.int .i64 (idx + 1))], .int .i64 0]) (by simp [results, Tryd.results67, go_sem, r0, r1]) rfl ?_
        exact acc_mk (r' := (⟨y, idx + 1⟩, 0)) (by rw [HA.out, HTN.out, HX.out, HY.out]) HV2
      · have d3 : ((t : Int) != (tag : Int)) = true := by simp; omega
        have d3b : ((tag : Int) != (t : Int)) = true := by simp; omega
        have HA := hid (A8.out HNN.out (by rw [HTN.out, HX.out, HT.out]; exact h3))
        clear A0 A8 A30
        have o_BR_0 : W4.cell? ⟨w.heap.size + 1, 0, none⟩ = some ((.int .u64 0)) := blk_cell BR.out 0
        have o_BR_1 : W4.cell? ⟨w.heap.size + 1, 1, none⟩ = some ((.int .i64 0)) := blk_cell BR.out 1
        have f_BR_0 : W4.frozen? ⟨w.heap.size + 1, 0, none⟩ = false := blk_free BR.out 0
        have f_BR_1 : W4.frozen? ⟨w.heap.size + 1, 1, none⟩ = false := blk_free BR.out 1
        go_wp2
        clear o_BR_0 o_BR_1 f_BR_0 f_BR_1
        obtain ⟨HV2, B3⟩ := fin2 HK.out (show w.heap.size ≤ w.heap.size + 1 by omega) BR.out (.int .u64 0) (.int .i64 0)
        have r0 := blk_cell B3 0
        have r1 := blk_cell B3 1
        refine bodyPost_ret (v := .tuple #[.agg #[(.int .u64 0), (.int .i64 0)], .int .i64 8]) (by simp [results, Tryd.results67, go_sem, r0, r1]) rfl ?_
        exact acc_mk (HA.out) HV2
set_option maxRecDepth 100000 in set_option maxHeartbeats 1000000 in
theorem RKey_any (k n : Nat) (w : World) (hk : k < 18446744073709551616) (hn : n ≤ 1000000000000) :
    Calls Tryd.prog 106 #[.int .u64 (k : Int), .int .i64 (n : Int)] w fun e w' => e = .returned (.int .u64 (iterN n k : Nat)) ∧ w = w' := by
  have HKK := hid hk
  clear hk
  go_enter Tryd.func106, Tryd.ntmps106
  go_wp2_with fail
  go_loop [5, 6] (fun kv iv => ∃ j : Nat, kv = .int .u64 ((iterN j k : Nat) : Int) ∧ iv = .int .i64 (j : Int) ∧ j ≤ n) (fun _ iv => n - (intOf iv).toNat)
  case atStart => exact ⟨0, rfl, rfl, Nat.zero_le _⟩
  case round =>
    obtain ⟨j, rfl, rfl, hj⟩ := hrel
    by_cases hlt : j < n
    · have q1 : (j : Int) < n := by omega
      have q2 : (0 : Int) ≤ j := by omega
      have HL := hid (iterN_lt HKK.out j)
      have HS : Hd (iterN (j + 1) k = stepN (iterN j k)) := hid rfl
      generalize iterN j k = x at *
      go_wp2_with fail
      refine (RStep_any x HL.out _).mono ?_
      rintro e w1 ⟨rfl, rfl⟩
      rw [← HS.out]
      obtain ⟨y, hy⟩ : ∃ y, iterN (j + 1) k = y := ⟨_, rfl⟩
      rw [hy]
      have HY := hid hy
      clear hy
      go_wp2
      go_round
      case rel => exact ⟨j + 1, by rw [HY.out], by go_num, by omega⟩
      case measure => simp [intOf]; omega
    · have hjn : j = n := by omega
      have q1 : ¬ ((j : Int) < n) := by omega
      subst hjn
      obtain ⟨x, hx⟩ : ∃ x, iterN j k = x := ⟨_, rfl⟩
      rw [hx]
      have HX := hid hx
      clear hx
      go_wp2
      go_ret
      exact ⟨by rw [HX.out]; rfl, rfl⟩
set_option maxRecDepth 100000 in set_option maxHeartbeats 1000000 in
theorem RAccept_any (l : Ld) (idx : Int) (tag : Nat) (K : Nat → Prop) (v : Value) (b : List Nat) (w : World) (hl : l.ok) (hx0 : -9223372036854775808 ≤ idx) (hx1 : idx ≤ 9223372036854775807) (hv : Sl K w v (u8s b)) (hb : ∀ c ∈ b, c < 256) (hm : b.length ≤ 140737488355200) :
    Calls Tryd.prog 71 #[.agg #[.int .u64 (l.k : Int), .int .i64 l.i], .int .i64 idx, v, .int .u64 (tag : Int)] w fun e w' => AccPost w (acceptL l idx b tag) e w' := by
  have A30 := hid (fun h => accept_key (l := l) (idx := idx) b tag h); have A8 := hid (fun h h2 => accept_sum (l := l) (idx := idx) (b := b) (tag := tag) h h2); have A0 := hid (fun h h2 => accept_ok (l := l) (idx := idx) (b := b) (tag := tag) h h2)
  obtain ⟨k, i⟩ := l
  obtain ⟨hk, hi0, hi1⟩ := hl
  simp only [] at hk hi0 hi1 ⊢
  have HKK := hid hk; have HV := hid (hv.mono (K' := fun b => b < w.heap.size) (fun b h _ => h)); have HB := hid hb; have HM := hid hm
  clear hk hv hb hm
  obtain ⟨R, hR⟩ : ∃ R, acceptL ⟨k, i⟩ idx b tag = R := ⟨_, rfl⟩
  rw [hR] at A30 A8 A0 ⊢
  clear hR
  go_enter Tryd.func71, Tryd.ntmps71
  go_upto_region 1 with fail
  generalize hW : World.alloc (World.alloc w _) _ = W1
  have KS : Hd (Keeps (fun _ => False) w W1) := hid (by rw [← hW]; exact (Keeps.alloc (Keeps.alloc (Keeps.refl (fun _ => False) w) _) _))
  have HV' : Hd (Sl (fun b => b < w.heap.size) W1 v (u8s b)) := hid (HV.out.keep KS.out (fun _ _ _ h => h))
  have BL : Hd (Blk W1 w.heap.size #[(.int .u64 (k : Int)), (.int .i64 i)] 33) := hid (by rw [← hW]; exact (blk_alloc (blk_new _ _ _) _))
  have BR : Hd (Blk W1 (w.heap.size + 1) #[(.int .u64 0), (.int .i64 0)] 33) := hid (by rw [← hW]; exact (blk_new' _ _ _ _ (by simp)))
  clear HV
  have HV := HV'
  clear HV'
  have HK : Hd (Keeps (fun _ => False) w W1) := hid KS.out
  have z_W1 : w.heap.size + 2 ≤ W1.heap.size := by rw [← hW]; simp
  clear hW KS
  by_cases h1 : idx < i
  · have d1 : decide (idx < i) = true := by simp; exact h1
    have o_BL_0 : W1.cell? ⟨w.heap.size, 0, none⟩ = some ((.int .u64 (k : Int))) := blk_cell BL.out 0
    have o_BL_1 : W1.cell? ⟨w.heap.size, 1, none⟩ = some ((.int .i64 i)) := blk_cell BL.out 1
    have o_BR_0 : W1.cell? ⟨w.heap.size + 1, 0, none⟩ = some ((.int .u64 0)) := blk_cell BR.out 0
    have o_BR_1 : W1.cell? ⟨w.heap.size + 1, 1, none⟩ = some ((.int .i64 0)) := blk_cell BR.out 1
    have f_BR_0 : W1.frozen? ⟨w.heap.size + 1, 0, none⟩ = false := blk_free BR.out 0
    have f_BR_1 : W1.frozen? ⟨w.heap.size + 1, 1, none⟩ = false := blk_free BR.out 1
    go_wp2
    clear o_BL_0 o_BL_1 o_BR_0 o_BR_1 f_BR_0 f_BR_1
    obtain ⟨HV2, B3⟩ := fin2 HK.out (show w.heap.size ≤ w.heap.size + 1 by omega) BR.out (.int .u64 0) (.int .i64 0)
    have r0 := blk_cell B3 0
    have r1 := blk_cell B3 1
    refine bodyPost_ret (v := .tuple #[.agg #[(.int .u64 0), (.int .i64 0)], .int .i64 30]) (by simp [results, Tryd.results71, go_sem, r0, r1]) rfl ?_
    exact acc_mk (A30.out (.inl h1)) HV2
  · have d1 : decide (idx < i) = false := by simp; omega
    have hw1 : IntKind.i64.wrap (i + 4096) = i + 4096 := IntWalk.i64_in _ (by omega)
    by_cases h2 : i + 4096 < idx
    · have d2 : decide (i + 4096 < idx) = true := by simp; exact h2
      have o_BL_0 : W1.cell? ⟨w.heap.size, 0, none⟩ = some ((.int .u64 (k : Int))) := blk_cell BL.out 0
      have o_BL_1 : W1.cell? ⟨w.heap.size, 1, none⟩ = some ((.int .i64 i)) := blk_cell BL.out 1
      have o_BR_0 : W1.cell? ⟨w.heap.size + 1, 0, none⟩ = some ((.int .u64 0)) := blk_cell BR.out 0
      have o_BR_1 : W1.cell? ⟨w.heap.size + 1, 1, none⟩ = some ((.int .i64 0)) := blk_cell BR.out 1
      have f_BR_0 : W1.frozen? ⟨w.heap.size + 1, 0, none⟩ = false := blk_free BR.out 0
      have f_BR_1 : W1.frozen? ⟨w.heap.size + 1, 1, none⟩ = false := blk_free BR.out 1
      go_wp2
      clear o_BL_0 o_BL_1 o_BR_0 o_BR_1 f_BR_0 f_BR_1
      obtain ⟨HV2, B3⟩ := fin2 HK.out (show w.heap.size ≤ w.heap.size + 1 by omega) BR.out (.int .u64 0) (.int .i64 0)
      have r0 := blk_cell B3 0
      have r1 := blk_cell B3 1
      refine bodyPost_ret (v := .tuple #[.agg #[(.int .u64 0), (.int .i64 0)], .int .i64 30]) (by simp [results, Tryd.results71, go_sem, r0, r1]) rfl ?_
      exact acc_mk (A30.out (.inr h2)) HV2
    · have d2 : decide (i + 4096 < idx) = false := by simp; omega
      have HNN : Hd (¬ (idx < i ∨ i + 4096 < idx)) := hid (by omega)
      obtain ⟨n, hn⟩ : ∃ n : Nat, idx - i = (n : Int) := ⟨(idx - i).toNat, by omega⟩
      have hn2 : n ≤ 4096 := by omega
      have HNI : Hd (idx = i + (n : Int)) := hid (by omega)
      have HTN : Hd ((idx - i).toNat = n) := hid (by omega)
      have hw2 : IntKind.i64.wrap (idx - i) = (n : Int) := by rw [hn]; exact IntWalk.i64_in _ (by omega)
      clear hn
      obtain ⟨x, hx⟩ : ∃ x, iterN n k = x := ⟨_, rfl⟩
      have HX := hid hx
      have HXL : Hd (x < 18446744073709551616) := hid (by rw [← hx]; exact iterN_lt HKK.out n)
      clear hx
      have o_BL_0 : W1.cell? ⟨w.heap.size, 0, none⟩ = some ((.int .u64 (k : Int))) := blk_cell BL.out 0
      have o_BL_1 : W1.cell? ⟨w.heap.size, 1, none⟩ = some ((.int .i64 i)) := blk_cell BL.out 1
      go_wp2_with fail
      try rw [hw2]
      refine (RKey_any k n _ HKK.out (by omega)).mono ?_
      rw [HX.out]
      rintro e wx ⟨rfl, rfl⟩
      clear hw1 hw2 d1 d2
      obtain ⟨t, ht⟩ : ∃ t, tagN x b = t := ⟨_, rfl⟩
      have HT := hid ht
      clear ht
      go_wp2_with fail
      refine (RTag_any _ x _ b _ HXL.out HV.out HB.out HM.out).mono ?_
      rw [HT.out]
      rintro e W2 ⟨rfl, hk⟩
      clear o_BL_0 o_BL_1
      have HV' : Hd (Sl (fun b => b < w.heap.size) W2 v (u8s b)) := hid (HV.out.keep hk (fun _ _ _ h => h))
      have BL' : Hd (Blk W2 w.heap.size #[(.int .u64 (k : Int)), (.int .i64 i)] 33) := hid (blk_keep BL.out hk (fun h => h))
      have BR' : Hd (Blk W2 (w.heap.size + 1) #[(.int .u64 0), (.int .i64 0)] 33) := hid (blk_keep BR.out hk (fun h => h))
      clear HV BL BR
      have HV := HV'
      clear HV'
      have BL := BL'
      clear BL'
      have BR := BR'
      clear BR'
      have HK' : Hd (Keeps (fun _ => False) w W2) := hid (HK.out.trans hk)
      clear HK
      have HK := HK'
      clear HK'
      have z_W2 := hk.size
      clear hk
      by_cases h3 : t = tag
      · have d3 : ((t : Int) != (tag : Int)) = false := by simp; omega
        have d3b : ((tag : Int) != (t : Int)) = false := by simp; omega
        have HA := hid (A0.out HNN.out (by rw [HTN.out, HX.out, HT.out]; exact h3))
        clear A0 A8 A30 h3
        go_wp2_with fail
        refine (RStep_any x HXL.out _).mono ?_
        rintro e wx ⟨rfl, rfl⟩
        have hw3 : IntKind.i64.wrap (idx + 1) = idx + 1 := IntWalk.i64_in _ (by omega)
        have o_BR_0 : W2.cell? ⟨w.heap.size + 1, 0, none⟩ = some ((.int .u64 0)) := blk_cell BR.out 0
        have o_BR_1 : W2.cell? ⟨w.heap.size + 1, 1, none⟩ = some ((.int .i64 0)) := blk_cell BR.out 1
        have f_BR_0 : W2.frozen? ⟨w.heap.size + 1, 0, none⟩ = false := blk_free BR.out 0
        have f_BR_1 : W2.frozen? ⟨w.heap.size + 1, 1, none⟩ = false := blk_free BR.out 1
        obtain ⟨y, hy⟩ : ∃ y, (stepN x) = y := ⟨_, rfl⟩
        rw [hy]
        have HY : Hd (stepN x = y) := hid hy
        clear hy
        go_wp2
        clear o_BR_0 o_BR_1 f_BR_0 f_BR_1
        obtain ⟨HV2, B3⟩ := fin2 HK.out (show w.heap.size ≤ w.heap.size + 1 by omega) BR.out (.int .u64 (y : Int)) (.int .i64 (idx + 1))
        have r0 := blk_cell B3 0
        have r1 := blk_cell B3 1
        refine bodyPost_ret (v := .tuple #[.agg #[(.int .u64 (y : Int)), (.int .i64 (idx + 1))], .int .i64 0]) (by simp [results, Tryd.results71, go_sem, r0, r1]) rfl ?_
        exact acc_mk (r' := (⟨y, idx + 1⟩, 0)) (by rw [HA.out, HTN.out, HX.out, HY.out]) HV2
      · have d3 : ((t : Int) != (tag : Int)) = true := by simp; omega
        have d3b : ((tag : Int) != (t : Int)) = true := by simp; omega
        have HA := hid (A8.out HNN.out (by rw [HTN.out, HX.out, HT.out]; exact h3))
        clear A0 A8 A30
        have o_BR_0 : W2.cell? ⟨w.heap.size + 1, 0, none⟩ = some ((.int .u64 0)) := blk_cell BR.out 0
        have o_BR_1 : W2.cell? ⟨w.heap.size + 1, 1, none⟩ = some ((.int .i64 0)) := blk_cell BR.out 1
        have f_BR_0 : W2.frozen? ⟨w.heap.size + 1, 0, none⟩ = false := blk_free BR.out 0
        have f_BR_1 : W2.frozen? ⟨w.heap.size + 1, 1, none⟩ = false := blk_free BR.out 1
        go_wp2
        clear o_BR_0 o_BR_1 f_BR_0 f_BR_1
        obtain ⟨HV2, B3⟩ := fin2 HK.out (show w.heap.size ≤ w.heap.size + 1 by omega) BR.out (.int .u64 0) (.int .i64 0)
        have r0 := blk_cell B3 0
        have r1 := blk_cell B3 1
        refine bodyPost_ret (v := .tuple #[.agg #[(.int .u64 0), (.int .i64 0)], .int .i64 8]) (by simp [results, Tryd.results71, go_sem, r0, r1]) rfl ?_
        exact acc_mk (HA.out) HV2
end Go.Proofs.YthoikljmokkchaaDoor
namespace Go.Proofs.YthoikljmokkchaaDoor
open Go.RowKit
structure Fr where
  q : Int
  k : Int
  u : Bool
  b : List Nat
  t : Nat
structure Fr.ok (f : Fr) : Prop where
  q0 : -9223372036854775808 ≤ f.q
  q1 : f.q ≤ 9223372036854775807
  k0 : -9223372036854775808 ≤ f.k
  k1 : f.k ≤ 9223372036854775807
  b : ∀ c ∈ f.b, c < 256
  t : f.t < 18446744073709551616
  n : f.b.length ≤ 140737488351232
def modN (n : Int) : Nat := (n % 256).toNat
theorem modN_lt (n : Int) : modN n < 256 := by unfold modN; omega
theorem modN_cast (n : Int) : ((modN n : Nat) : Int) = n % 256 := by unfold modN; omega
def unl (u : Bool) : Nat := if u then 1 else 0
theorem unl_lt (u : Bool) : unl u ≤ 1 := by unfold unl; split <;> omega
def covL (f : Fr) : List Nat := Wi.enc (modN f.q) ++ Wi.encI f.k ++ Wi.enc (unl f.u) ++ Wi.encB f.b
theorem covL_lt {f : Fr} (h : f.ok) : ∀ c ∈ covL f, c < 256 := by
  intro c hc
  unfold covL Wi.encI Wi.encB at hc
  simp only [List.mem_append] at hc
  rcases hc with ((hc | hc) | hc) | hc | hc
  · exact Wi.enc_lt _ _ hc
  · exact Wi.enc_lt _ _ hc
  · exact Wi.enc_lt _ _ hc
  · exact Wi.enc_lt _ _ hc
  · exact h.b c hc
theorem cov3_len {f : Fr} (h : f.ok) : (Wi.enc (modN f.q) ++ Wi.encI f.k ++ Wi.enc (unl f.u)).length ≤ 30 := by
  have h1 := Wi.enc_len10 (n := modN f.q) (by have := modN_lt f.q; omega)
  have h2 := Wi.enc_len10 (n := Wi.zig f.k) (Wi.zig_le h.k0 h.k1)
  have h3 := Wi.enc_len10 (n := unl f.u) (by have := unl_lt f.u; omega)
  unfold Wi.encI
  simp only [List.length_append]; omega
theorem covL_len {f : Fr} (h : f.ok) : (covL f).length ≤ f.b.length + 40 := by
  have h1 := cov3_len h
  have h2 := Wi.enc_len10 (n := f.b.length) (by have := h.n; omega)
  unfold covL Wi.encB
  simp only [List.length_append] at h1 ⊢; omega
def encF (f : Fr) : List Nat := Cr.seal_ (covL f ++ Wi.enc f.t)
theorem reduced_any (n : Int) (w : World) (h0 : -9223372036854775808 ≤ n) (h1 : n ≤ 9223372036854775807) :
    Calls Tryd.prog 68 #[.int .i64 n] w fun e w' => e = .returned (.int .i64 (modN n : Nat)) ∧ w = w' := by
  obtain ⟨r, hr⟩ : ∃ r, Int.tmod n 256 = r := ⟨_, rfl⟩
  have hr1 : -256 < r ∧ r < 256 ∧ (r + 256) % 256 = n % 256 := by
    rw [← hr]
    have h := Int.tmod_add_mul_tdiv n 256
    rcases Int.lt_or_le n 0 with hn | hn
    · have h3 := Int.neg_tmod (a := -n) (b := 256)
      rw [Int.neg_neg, Int.tmod_eq_emod_of_nonneg (a := -n) (b := 256) (by omega)] at h3
      omega
    · rw [Int.tmod_eq_emod_of_nonneg hn]; omega
  obtain ⟨hr2, hr3, hr4⟩ := hr1
  have HM : Hd (((modN n : Nat) : Int) = (r + 256) % 256) := hid (by rw [modN_cast, hr4])
  have hw1 : IntKind.i64.wrap r = r := IntWalk.i64_in _ (by omega)
  have hw2 : IntKind.i64.wrap (r + 256) = r + 256 := IntWalk.i64_in _ (by omega)
  have hw3 : Int.tmod (r + 256) 256 = (r + 256) % 256 := Int.tmod_eq_emod_of_nonneg (by omega)
  obtain ⟨z, hz⟩ : ∃ z, (r + 256) % 256 = z := ⟨_, rfl⟩
  rw [hz] at HM hw3
  have hw4 : IntKind.i64.wrap z = z := IntWalk.i64_in _ (by omega)
  clear hr4 hz
  go_enter Tryd.func68, Tryd.ntmps68
  go_wp2
  go_ret
  exact ⟨by rw [HM.out]; first | rfl | (simp only [hr, hw1, hw2, hw3, hw4]; rfl), rfl⟩
theorem Mod_any (n : Int) (w : World) (h0 : -9223372036854775808 ≤ n) (h1 : n ≤ 9223372036854775807) :
    Calls Tryd.prog 55 #[.int .i64 n] w fun e w' => e = .returned (.int .i64 (modN n : Nat)) ∧ w = w' := by
  obtain ⟨r, hr⟩ : ∃ r, Int.tmod n 256 = r := ⟨_, rfl⟩
  have hr1 : -256 < r ∧ r < 256 ∧ (r + 256) % 256 = n % 256 := by
    rw [← hr]
    rcases Int.lt_or_le n 0 with hn | hn
    · have h3 := Int.neg_tmod (a := -n) (b := 256)
      rw [Int.neg_neg, Int.tmod_eq_emod_of_nonneg (a := -n) (b := 256) (by omega)] at h3
      omega
    · rw [Int.tmod_eq_emod_of_nonneg hn]; omega
  obtain ⟨hr2, hr3, hr4⟩ := hr1
  have hw1 : IntKind.i64.wrap r = r := IntWalk.i64_in _ (by omega)
  have hw2 : IntKind.i64.wrap (r + 256) = r + 256 := IntWalk.i64_in _ (by omega)
  by_cases hn : r < 0
  · have HM : Hd (((modN n : Nat) : Int) = r + 256) := hid (by rw [modN_cast]; omega)
    clear hr4
    go_enter Tryd.func55, Tryd.ntmps55
    go_wp2
    go_ret
    exact ⟨by rw [HM.out]; first | rfl | (simp only [hr, hw1, hw2]; rfl), rfl⟩
  · have HM : Hd (((modN n : Nat) : Int) = r) := hid (by rw [modN_cast]; omega)
    clear hr4
    go_enter Tryd.func55, Tryd.ntmps55
    go_wp2
    go_ret
    exact ⟨by rw [HM.out]; first | rfl | (simp only [hr, hw1, hw2]; rfl), rfl⟩
def NibR (w : World) : Prop := Cr.Nib w
theorem NibR.keep {S : Nat → Prop} {w w' : World} (h : NibR w) (hk : Keeps S w w') (h0 : ∀ b, b < w.heap.size → b = 0 → ¬ S b) : NibR w' := Cr.Nib.keep h hk (fun hs => h0 0 (cell_lt (h 0 (by omega))) rfl hs)
theorem NibR.pos {w : World} (h : NibR w) : 0 < w.heap.size := cell_lt (h 0 (by omega))
theorem bufx_post {p bf : Nat} {w w' : World} {xs ys : List Nat} (h0 : Wi.Buf (fun k => p < k ∧ k ≠ bf) w p ys) (hb : bf < w.heap.size) (h : Wi.BufPost (fun k => p < k ∧ k ≠ bf) w p xs w') : Wi.Buf (fun k => p < k ∧ k ≠ bf) w' p xs ∧ Keeps (fun k => (p < k ∧ k ≠ bf) ∨ k = p) w w' := by
  have hp := h0.choose_spec.2.2.2.2
  obtain ⟨⟨v, h1, h2, h3, h4, h5⟩, h6⟩ := h
  exact ⟨⟨v, h1, h2, h3.mono (fun b _ hb => by rcases hb with hb | hb; exact hb; exact ⟨by omega, by omega⟩), by omega, h5⟩, h6⟩
set_option maxRecDepth 100000 in set_option maxHeartbeats 1000000 in
theorem cover_any (p : Nat) (xs : List Nat) (f : Fr) (a : Option Addr) (c : Nat) (w : World) (hb : Wi.BufAt w p xs) (hxl : xs.length ≤ 20) (hf : f.ok) (hx : Sl (fun k => k < p) w (.slice a f.b.length c) (u8s f.b)) :
    Calls Tryd.prog 57 #[.pointer (some ⟨p, 0, none⟩), .agg #[.int .i64 f.q, .int .i64 f.k, .bool f.u, .slice a f.b.length c, .int .u64 (f.t : Int)]] w fun e w' => e = .returned (.tuple #[]) ∧ Wi.BufAt w' p (xs ++ covL f) ∧ Keeps (fun k => p ≤ k) w w' := by
  have HB0 := hid hb.tight; have HX := hid hx; have HF := hid hf; have hpw := hb.lt
  clear hb hx hf
  have HXE : Hd (xs ++ covL f = xs ++ Wi.enc (modN f.q) ++ Wi.encI f.k ++ Wi.enc (unl f.u) ++ Wi.encB f.b) := hid (by unfold covL; simp only [List.append_assoc])
  have HL3 := hid (cov3_len HF.out)
  go_enter Tryd.func57, Tryd.ntmps57
  go_upto_region 1 with fail
  have HBX : Hd (Wi.Buf (fun k => p < k ∧ k ≠ w.heap.size) w p xs) := hid (by obtain ⟨v, h1, h2, h3, h4, h5⟩ := HB0.out; exact ⟨v, h1, h2, h3.mono (fun b hb h => ⟨h.1, by omega⟩), by omega, h5⟩)
  generalize hW : World.alloc w _ = W1
  have KS : Hd (Keeps (fun _ => False) w W1) := hid (by rw [← hW]; exact (Keeps.alloc (Keeps.refl (fun _ => False) w) _))
  have HX' : Hd (Sl (fun k => k < p) W1 (.slice a f.b.length c) (u8s f.b)) := hid (HX.out.keep KS.out (fun _ _ _ h => h))
  have BF : Hd (Blk W1 w.heap.size #[(.int .i64 f.q), (.int .i64 f.k), (.bool f.u), (.slice a f.b.length c), (.int .u64 (f.t : Int))] 25) := hid (by rw [← hW]; exact (blk_new _ _ _))
  clear HX
  have HX := HX'
  clear HX'
  have HK : Hd (Keeps (fun _ => False) w W1) := hid KS.out
  have z_W1 : w.heap.size + 1 ≤ W1.heap.size := by rw [← hW]; simp
  have HB : Hd (Wi.Buf (fun k => p < k ∧ k ≠ w.heap.size) W1 p xs) := hid (Wi.Buf.keep (HBX.out) KS.out (fun h => h) (fun _ _ _ h => h))
  clear hW KS
  obtain ⟨u, hu⟩ : ∃ u, f.u = u := ⟨_, rfl⟩
  have HU := hid hu
  rw [hu] at BF
  clear hu HB0 HBX
  have HUN : Hd (unl f.u = if u then 1 else 0) := hid (by rw [HU.out]; rfl)
  cases u
  · have HU1 : Hd (unl f.u = 0) := hid (by rw [HUN.out]; rfl)
    clear HUN
    have o_BF_0 : W1.cell? ⟨w.heap.size, 0, none⟩ = some ((.int .i64 f.q)) := blk_cell BF.out 0
    have o_BF_2 : W1.cell? ⟨w.heap.size, 2, none⟩ = some ((.bool false)) := blk_cell BF.out 2
    go_wp2_with fail
    refine (reduced_any f.q _ HF.out.q0 HF.out.q1).mono ?_
    rintro e wx ⟨rfl, rfl⟩
    obtain ⟨m, hm⟩ : ∃ m, modN f.q = m := ⟨_, rfl⟩
    rw [hm]
    have HM := hid hm
    have hm1 : m < 256 := by rw [← hm]; exact modN_lt _
    clear hm
    have hwm : IntKind.u64.wrap (m : Int) = (m : Int) := by simp [IntKind.wrap, IntKind.bits, IntKind.signed]; omega
    go_wp2_with fail
    try rw [hwm]
    refine (Wi.WUint_any _ p _ m _ HB.out (by omega) (by omega)).mono ?_
    rintro e W2 ⟨rfl, hp⟩
    obtain ⟨hb3, hk⟩ := bufx_post HB.out (by omega) hp
    clear HB hp
    have HB := hid hb3
    clear hb3
    clear o_BF_0 o_BF_2
    have HX' : Hd (Sl (fun k => k < p) W2 (.slice a f.b.length c) (u8s f.b)) := hid (HX.out.keep hk (fun b h1 h2 h3 => by rcases h3 with h3 | h3 <;> omega))
    have BF' : Hd (Blk W2 w.heap.size #[(.int .i64 f.q), (.int .i64 f.k), (.bool false), (.slice a f.b.length c), (.int .u64 (f.t : Int))] 25) := hid (blk_keep BF.out hk (fun h => by rcases h with h | h <;> omega))
    clear HX BF
    have HX := HX'
    clear HX'
    have BF := BF'
    clear BF'
    have HKP' : Hd (Keeps (fun k => p ≤ k) w W2) := hid ((hid (HK.out.mono (fun _ _ h => h.elim)) : Hd (Keeps (fun k => p ≤ k) w W1)).out.trans' hk (fun i hi h => by rcases h with h | h <;> omega))
    clear HK
    have HKP := HKP'
    clear HKP'
    have z_W2 := hk.size
    clear hk
    have o_BF_1 : W2.cell? ⟨w.heap.size, 1, none⟩ = some ((.int .i64 f.k)) := blk_cell BF.out 1
    have l1 := Wi.enc_len10 (n := m) (by omega)
    go_wp2_with fail
    refine (Wi.WInt_any _ p _ f.k _ HB.out HF.out.k0 HF.out.k1 (by rw [List.length_append]; omega)).mono ?_
    rintro e W3 ⟨rfl, hp⟩
    obtain ⟨hb3, hk⟩ := bufx_post HB.out (by omega) hp
    clear HB hp
    have HB := hid hb3
    clear hb3
    clear o_BF_1
    have HX' : Hd (Sl (fun k => k < p) W3 (.slice a f.b.length c) (u8s f.b)) := hid (HX.out.keep hk (fun b h1 h2 h3 => by rcases h3 with h3 | h3 <;> omega))
    have BF' : Hd (Blk W3 w.heap.size #[(.int .i64 f.q), (.int .i64 f.k), (.bool false), (.slice a f.b.length c), (.int .u64 (f.t : Int))] 25) := hid (blk_keep BF.out hk (fun h => by rcases h with h | h <;> omega))
    clear HX BF
    have HX := HX'
    clear HX'
    have BF := BF'
    clear BF'
    have HKP' : Hd (Keeps (fun k => p ≤ k) w W3) := hid (HKP.out.trans' hk (fun i hi h => by rcases h with h | h <;> omega))
    clear HKP
    have HKP := HKP'
    clear HKP'
    have z_W3 := hk.size
    clear hk
    have l2 : (xs ++ Wi.enc m ++ Wi.encI f.k).length ≤ 60 := by have h := Wi.enc_len10 (n := Wi.zig f.k) (Wi.zig_le HF.out.k0 HF.out.k1); unfold Wi.encI; rw [List.length_append, List.length_append]; omega
    go_wp2_with fail
    refine (Wi.WUint_any _ p _ 0 _ HB.out (by omega) (by omega)).mono ?_
    rintro e W4 ⟨rfl, hp⟩
    obtain ⟨hb3, hk⟩ := bufx_post HB.out (by omega) hp
    clear HB hp
    have HB := hid hb3
    clear hb3
    have HX' : Hd (Sl (fun k => k < p) W4 (.slice a f.b.length c) (u8s f.b)) := hid (HX.out.keep hk (fun b h1 h2 h3 => by rcases h3 with h3 | h3 <;> omega))
    have BF' : Hd (Blk W4 w.heap.size #[(.int .i64 f.q), (.int .i64 f.k), (.bool false), (.slice a f.b.length c), (.int .u64 (f.t : Int))] 25) := hid (blk_keep BF.out hk (fun h => by rcases h with h | h <;> omega))
    clear HX BF
    have HX := HX'
    clear HX'
    have BF := BF'
    clear BF'
    have HKP' : Hd (Keeps (fun k => p ≤ k) w W4) := hid (HKP.out.trans' hk (fun i hi h => by rcases h with h | h <;> omega))
    clear HKP
    have HKP := HKP'
    clear HKP'
    have z_W4 := hk.size
    clear hk
    have l3 : (xs ++ Wi.enc m ++ Wi.encI f.k ++ Wi.enc 0).length ≤ 80 := by have h := Wi.enc_len10 (n := 0) (by omega); rw [List.length_append]; omega
    have o_BF_3 : W4.cell? ⟨w.heap.size, 3, none⟩ = some ((.slice a f.b.length c)) := blk_cell BF.out 3
    go_wp2_with fail
    refine (Wi.WBytes_any _ (fun k => k < p) p _ _ f.b _ HB.out HX.out (fun k hk hK => ⟨fun h => by omega, by omega⟩) (by have := HF.out.n; omega)).mono ?_
    rintro e W5 ⟨rfl, hp⟩
    obtain ⟨hb3, hk⟩ := bufx_post HB.out (by omega) hp
    clear HB hp
    have HB := hid hb3
    clear hb3
    clear o_BF_3
    have HX' : Hd (Sl (fun k => k < p) W5 (.slice a f.b.length c) (u8s f.b)) := hid (HX.out.keep hk (fun b h1 h2 h3 => by rcases h3 with h3 | h3 <;> omega))
    have BF' : Hd (Blk W5 w.heap.size #[(.int .i64 f.q), (.int .i64 f.k), (.bool false), (.slice a f.b.length c), (.int .u64 (f.t : Int))] 25) := hid (blk_keep BF.out hk (fun h => by rcases h with h | h <;> omega))
    clear HX BF
    have HX := HX'
    clear HX'
    have BF := BF'
    clear BF'
    have HKP' : Hd (Keeps (fun k => p ≤ k) w W5) := hid (HKP.out.trans' hk (fun i hi h => by rcases h with h | h <;> omega))
    clear HKP
    have HKP := HKP'
    clear HKP'
    have z_W5 := hk.size
    clear hk
    rw [show xs ++ Wi.enc m ++ Wi.encI f.k ++ Wi.enc 0 ++ Wi.encB f.b = xs ++ covL f by rw [HXE.out, HM.out, HU1.out]] at HB
    have HBF : Hd (Wi.BufAt W5 p (xs ++ covL f)) := hid (by obtain ⟨v, h1, h2, h3, h4, h5⟩ := HB.out; exact ⟨v, h1, h2, h3.mono (fun b _ h => h.1), by omega, h5⟩)
    go_wp2
    go_end0
    exact ⟨rfl, HBF.out, HKP.out⟩
  · have HU1 : Hd (unl f.u = 1) := hid (by rw [HUN.out]; rfl)
    clear HUN
    have o_BF_0 : W1.cell? ⟨w.heap.size, 0, none⟩ = some ((.int .i64 f.q)) := blk_cell BF.out 0
    have o_BF_2 : W1.cell? ⟨w.heap.size, 2, none⟩ = some ((.bool true)) := blk_cell BF.out 2
    go_wp2_with fail
    refine (reduced_any f.q _ HF.out.q0 HF.out.q1).mono ?_
    rintro e wx ⟨rfl, rfl⟩
    obtain ⟨m, hm⟩ : ∃ m, modN f.q = m := ⟨_, rfl⟩
    rw [hm]
    have HM := hid hm
    have hm1 : m < 256 := by rw [← hm]; exact modN_lt _
    clear hm
    have hwm : IntKind.u64.wrap (m : Int) = (m : Int) := by simp [IntKind.wrap, IntKind.bits, IntKind.signed]; omega
    go_wp2_with fail
    try rw [hwm]
    refine (Wi.WUint_any _ p _ m _ HB.out (by omega) (by omega)).mono ?_
    rintro e W2 ⟨rfl, hp⟩
    obtain ⟨hb3, hk⟩ := bufx_post HB.out (by omega) hp
    clear HB hp
    have HB := hid hb3
    clear hb3
    clear o_BF_0 o_BF_2
    have HX' : Hd (Sl (fun k => k < p) W2 (.slice a f.b.length c) (u8s f.b)) := hid (HX.out.keep hk (fun b h1 h2 h3 => by rcases h3 with h3 | h3 <;> omega))
    have BF' : Hd (Blk W2 w.heap.size #[(.int .i64 f.q), (.int .i64 f.k), (.bool true), (.slice a f.b.length c), (.int .u64 (f.t : Int))] 25) := hid (blk_keep BF.out hk (fun h => by rcases h with h | h <;> omega))
    clear HX BF
    have HX := HX'
    clear HX'
    have BF := BF'
    clear BF'
    have HKP' : Hd (Keeps (fun k => p ≤ k) w W2) := hid ((hid (HK.out.mono (fun _ _ h => h.elim)) : Hd (Keeps (fun k => p ≤ k) w W1)).out.trans' hk (fun i hi h => by rcases h with h | h <;> omega))
    clear HK
    have HKP := HKP'
    clear HKP'
    have z_W2 := hk.size
    clear hk
    have o_BF_1 : W2.cell? ⟨w.heap.size, 1, none⟩ = some ((.int .i64 f.k)) := blk_cell BF.out 1
    have l1 := Wi.enc_len10 (n := m) (by omega)
    go_wp2_with fail
    refine (Wi.WInt_any _ p _ f.k _ HB.out HF.out.k0 HF.out.k1 (by rw [List.length_append]; omega)).mono ?_
    rintro e W3 ⟨rfl, hp⟩
    obtain ⟨hb3, hk⟩ := bufx_post HB.out (by omega) hp
    clear HB hp
    have HB := hid hb3
    clear hb3
    clear o_BF_1
    have HX' : Hd (Sl (fun k => k < p) W3 (.slice a f.b.length c) (u8s f.b)) := hid (HX.out.keep hk (fun b h1 h2 h3 => by rcases h3 with h3 | h3 <;> omega))
    have BF' : Hd (Blk W3 w.heap.size #[(.int .i64 f.q), (.int .i64 f.k), (.bool true), (.slice a f.b.length c), (.int .u64 (f.t : Int))] 25) := hid (blk_keep BF.out hk (fun h => by rcases h with h | h <;> omega))
    clear HX BF
    have HX := HX'
    clear HX'
    have BF := BF'
    clear BF'
    have HKP' : Hd (Keeps (fun k => p ≤ k) w W3) := hid (HKP.out.trans' hk (fun i hi h => by rcases h with h | h <;> omega))
    clear HKP
    have HKP := HKP'
    clear HKP'
    have z_W3 := hk.size
    clear hk
    have l2 : (xs ++ Wi.enc m ++ Wi.encI f.k).length ≤ 60 := by have h := Wi.enc_len10 (n := Wi.zig f.k) (Wi.zig_le HF.out.k0 HF.out.k1); unfold Wi.encI; rw [List.length_append, List.length_append]; omega
    go_wp2_with fail
    refine (Wi.WUint_any _ p _ 1 _ HB.out (by omega) (by omega)).mono ?_
    rintro e W4 ⟨rfl, hp⟩
    obtain ⟨hb3, hk⟩ := bufx_post HB.out (by omega) hp
    clear HB hp
    have HB := hid hb3
    clear hb3
    have HX' : Hd (Sl (fun k => k < p) W4 (.slice a f.b.length c) (u8s f.b)) := hid (HX.out.keep hk (fun b h1 h2 h3 => by rcases h3 with h3 | h3 <;> omega))
    have BF' : Hd (Blk W4 w.heap.size #[(.int .i64 f.q), (.int .i64 f.k), (.bool true), (.slice a f.b.length c), (.int .u64 (f.t : Int))] 25) := hid (blk_keep BF.out hk (fun h => by rcases h with h | h <;> omega))
    clear HX BF
    have HX := HX'
    clear HX'
    have BF := BF'
    clear BF'
    have HKP' : Hd (Keeps (fun k => p ≤ k) w W4) := hid (HKP.out.trans' hk (fun i hi h => by rcases h with h | h <;> omega))
    clear HKP
    have HKP := HKP'
    clear HKP'
    have z_W4 := hk.size
    clear hk
    have l3 : (xs ++ Wi.enc m ++ Wi.encI f.k ++ Wi.enc 1).length ≤ 80 := by have h := Wi.enc_len10 (n := 1) (by omega); rw [List.length_append]; omega
    have o_BF_3 : W4.cell? ⟨w.heap.size, 3, none⟩ = some ((.slice a f.b.length c)) := blk_cell BF.out 3
    go_wp2_with fail
    refine (Wi.WBytes_any _ (fun k => k < p) p _ _ f.b _ HB.out HX.out (fun k hk hK => ⟨fun h => by omega, by omega⟩) (by have := HF.out.n; omega)).mono ?_
    rintro e W5 ⟨rfl, hp⟩
    obtain ⟨hb3, hk⟩ := bufx_post HB.out (by omega) hp
    clear HB hp
    have HB := hid hb3
    clear hb3
    clear o_BF_3
    have HX' : Hd (Sl (fun k => k < p) W5 (.slice a f.b.length c) (u8s f.b)) := hid (HX.out.keep hk (fun b h1 h2 h3 => by rcases h3 with h3 | h3 <;> omega))
    have BF' : Hd (Blk W5 w.heap.size #[(.int .i64 f.q), (.int .i64 f.k), (.bool true), (.slice a f.b.length c), (.int .u64 (f.t : Int))] 25) := hid (blk_keep BF.out hk (fun h => by rcases h with h | h <;> omega))
    clear HX BF
    have HX := HX'
    clear HX'
    have BF := BF'
    clear BF'
    have HKP' : Hd (Keeps (fun k => p ≤ k) w W5) := hid (HKP.out.trans' hk (fun i hi h => by rcases h with h | h <;> omega))
    clear HKP
    have HKP := HKP'
    clear HKP'
    have z_W5 := hk.size
    clear hk
    rw [show xs ++ Wi.enc m ++ Wi.encI f.k ++ Wi.enc 1 ++ Wi.encB f.b = xs ++ covL f by rw [HXE.out, HM.out, HU1.out]] at HB
    have HBF : Hd (Wi.BufAt W5 p (xs ++ covL f)) := hid (by obtain ⟨v, h1, h2, h3, h4, h5⟩ := HB.out; exact ⟨v, h1, h2, h3.mono (fun b _ h => h.1), by omega, h5⟩)
    go_wp2
    go_end0
    exact ⟨rfl, HBF.out, HKP.out⟩
set_option maxRecDepth 100000 in set_option maxHeartbeats 1000000 in
theorem Signed_any (f : Fr) (K : Nat → Prop) (a : Option Addr) (c : Nat) (w : World) (hf : f.ok) (hx : Sl K w (.slice a f.b.length c) (u8s f.b)) :
    Calls Tryd.prog 14 #[.agg #[.int .i64 f.q, .int .i64 f.k, .bool f.u, .slice a f.b.length c, .int .u64 (f.t : Int)]] w fun e w' => Cr.NewRet w 5 (u8s (covL f)) e w' := by
  have HX := hid (hx.mono (K' := fun b => b < w.heap.size) (fun b h _ => h)); have HF := hid hf
  clear hx hf
  go_enter Tryd.func14, Tryd.ntmps14
  go_upto_region 1 with fail
  generalize hW : World.alloc w _ = W1
  have KS : Hd (Keeps (fun _ => False) w W1) := hid (by rw [← hW]; exact (Keeps.alloc (Keeps.refl (fun _ => False) w) _))
  have HX' : Hd (Sl (fun b => b < w.heap.size) W1 (.slice a f.b.length c) (u8s f.b)) := hid (HX.out.keep KS.out (fun _ _ _ h => h))
  have BF : Hd (Blk W1 w.heap.size #[(.int .i64 f.q), (.int .i64 f.k), (.bool f.u), (.slice a f.b.length c), (.int .u64 (f.t : Int))] 25) := hid (by rw [← hW]; exact (blk_new _ _ _))
  clear HX
  have HX := HX'
  clear HX'
  have HK : Hd (Keeps (fun _ => False) w W1) := hid KS.out
  have z_W1 : w.heap.size + 1 ≤ W1.heap.size := by rw [← hW]; simp
  clear hW KS
  go_upto_region 2 with fail
  generalize hW : World.alloc W1 _ = W2
  have HBF : Hd (Wi.BufAt W2 W1.heap.size []) := hid (by rw [← hW]; exact Wi.BufAt.new _ _)
  have hk : Keeps (fun _ => False) W1 W2 := by rw [← hW]; exact keeps_alloc _ _ _
  have zb := HBF.out.lt
  clear hW
  have HX' : Hd (Sl (fun b => b < w.heap.size) W2 (.slice a f.b.length c) (u8s f.b)) := hid (HX.out.keep hk (fun _ _ _ h => h))
  have BF' : Hd (Blk W2 w.heap.size #[(.int .i64 f.q), (.int .i64 f.k), (.bool f.u), (.slice a f.b.length c), (.int .u64 (f.t : Int))] 25) := hid (blk_keep BF.out hk (fun h => h))
  clear HX BF
  have HX := HX'
  clear HX'
  have BF := BF'
  clear BF'
  have HK' : Hd (Keeps (fun _ => False) w W2) := hid (HK.out.trans hk)
  clear HK
  have HK := HK'
  clear HK'
  have z_W2 := hk.size
  clear hk
  have o_BF_0 : W2.cell? ⟨w.heap.size, 0, none⟩ = some ((.int .i64 f.q)) := blk_cell BF.out 0
  have o_BF_1 : W2.cell? ⟨w.heap.size, 1, none⟩ = some ((.int .i64 f.k)) := blk_cell BF.out 1
  have o_BF_2 : W2.cell? ⟨w.heap.size, 2, none⟩ = some ((.bool f.u)) := blk_cell BF.out 2
  have o_BF_3 : W2.cell? ⟨w.heap.size, 3, none⟩ = some ((.slice a f.b.length c)) := blk_cell BF.out 3
  have o_BF_4 : W2.cell? ⟨w.heap.size, 4, none⟩ = some ((.int .u64 (f.t : Int))) := blk_cell BF.out 4
  go_wp2_with fail
  refine (cover_any W1.heap.size [] f a c _ HBF.out (by simp) HF.out (HX.out.mono (fun b _ h => by omega))).mono ?_
  rintro e W3 ⟨rfl, hb, hk⟩
  clear HBF
  have HBF := hid hb
  clear hb
  rw [List.nil_append] at HBF
  clear o_BF_0 o_BF_1 o_BF_2 o_BF_3 o_BF_4
  have HX' : Hd (Sl (fun b => b < w.heap.size) W3 (.slice a f.b.length c) (u8s f.b)) := hid (HX.out.keep hk (fun b h1 h2 h3 => by omega))
  have BF' : Hd (Blk W3 w.heap.size #[(.int .i64 f.q), (.int .i64 f.k), (.bool f.u), (.slice a f.b.length c), (.int .u64 (f.t : Int))] 25) := hid (blk_keep BF.out hk (fun h => by omega))
  clear HX BF
  have HX := HX'
  clear HX'
  have BF := BF'
  clear BF'
  have HK' : Hd (Keeps (fun _ => False) w W3) := hid (HK.out.trans' hk (fun i hi h => by omega))
  clear HK
  have HK := HK'
  clear HK'
  have z_W3 := hk.size
  clear hk
  have HCL := hid (covL_len HF.out)
  have HPL : Hd ((covL f).length ≤ 140737488351300) := hid (by have := HCL.out; have := HF.out.n; omega)
  obtain ⟨en, hen⟩ : ∃ en, covL f = en := ⟨_, rfl⟩
  rw [hen] at HPL HBF
  have HEN := hid hen
  clear hen
  go_wp2_with fail
  refine (Wi.WDone_any _ W1.heap.size en _ HBF.out (by have := HPL.out; omega)).mono ?_
  rintro e W4 ⟨ad, nd, cd, rfl, hnd, hod, hk⟩
  have HOD := hid hod; have HND := hid hnd; have HK9 := hid (HK.out.trans hk)
  have z9 := HK.out.size
  clear hod hnd hk
  go_wp2
  go_ret
  exact ⟨ad, nd, cd, rfl, by rw [HEN.out]; exact HND.out, by rw [HEN.out]; exact HOD.out.mono (fun b _ h => by omega), HK9.out⟩
set_option maxRecDepth 100000 in set_option maxHeartbeats 1000000 in
theorem Encode_any (f : Fr) (K : Nat → Prop) (a : Option Addr) (c : Nat) (w : World) (hN : Cr.Nib w) (hf : f.ok) (hx : Sl K w (.slice a f.b.length c) (u8s f.b)) :
    Calls Tryd.prog 16 #[.agg #[.int .i64 f.q, .int .i64 f.k, .bool f.u, .slice a f.b.length c, .int .u64 (f.t : Int)]] w fun e w' => Cr.NewRet w 5 (u8s (encF f)) e w' := by
  have HX := hid (hx.mono (K' := fun b => b < w.heap.size) (fun b h _ => h)); have HF := hid hf
  have HN : Hd (NibR w) := hid hN
  clear hx hf hN
  go_enter Tryd.func16, Tryd.ntmps16
  go_upto_region 1 with fail
  generalize hW : World.alloc w _ = W1
  have KS : Hd (Keeps (fun _ => False) w W1) := hid (by rw [← hW]; exact (Keeps.alloc (Keeps.refl (fun _ => False) w) _))
  have HX' : Hd (Sl (fun b => b < w.heap.size) W1 (.slice a f.b.length c) (u8s f.b)) := hid (HX.out.keep KS.out (fun _ _ _ h => h))
  have HN' : Hd (NibR W1) := hid (HN.out.keep KS.out (fun _ _ _ h => h))
  have BF : Hd (Blk W1 w.heap.size #[(.int .i64 f.q), (.int .i64 f.k), (.bool f.u), (.slice a f.b.length c), (.int .u64 (f.t : Int))] 25) := hid (by rw [← hW]; exact (blk_new _ _ _))
  clear HX HN
  have HX := HX'
  clear HX'
  have HN := HN'
  clear HN'
  have HK : Hd (Keeps (fun _ => False) w W1) := hid KS.out
  have z_W1 : w.heap.size + 1 ≤ W1.heap.size := by rw [← hW]; simp
  clear hW KS
  go_upto_region 2 with fail
  generalize hW : World.alloc W1 _ = W2
  have HBF : Hd (Wi.BufAt W2 W1.heap.size []) := hid (by rw [← hW]; exact Wi.BufAt.new _ _)
  have hk : Keeps (fun _ => False) W1 W2 := by rw [← hW]; exact keeps_alloc _ _ _
  have zb := HBF.out.lt
  clear hW
  have HX' : Hd (Sl (fun b => b < w.heap.size) W2 (.slice a f.b.length c) (u8s f.b)) := hid (HX.out.keep hk (fun _ _ _ h => h))
  have HN' : Hd (NibR W2) := hid (HN.out.keep hk (fun _ _ _ h => h))
  have BF' : Hd (Blk W2 w.heap.size #[(.int .i64 f.q), (.int .i64 f.k), (.bool f.u), (.slice a f.b.length c), (.int .u64 (f.t : Int))] 25) := hid (blk_keep BF.out hk (fun h => h))
  clear HX HN BF
  have HX := HX'
  clear HX'
  have HN := HN'
  clear HN'
  have BF := BF'
  clear BF'
  have HK' : Hd (Keeps (fun _ => False) w W2) := hid (HK.out.trans hk)
  clear HK
  have HK := HK'
  clear HK'
  have z_W2 := hk.size
  clear hk
  have o_BF_0 : W2.cell? ⟨w.heap.size, 0, none⟩ = some ((.int .i64 f.q)) := blk_cell BF.out 0
  have o_BF_1 : W2.cell? ⟨w.heap.size, 1, none⟩ = some ((.int .i64 f.k)) := blk_cell BF.out 1
  have o_BF_2 : W2.cell? ⟨w.heap.size, 2, none⟩ = some ((.bool f.u)) := blk_cell BF.out 2
  have o_BF_3 : W2.cell? ⟨w.heap.size, 3, none⟩ = some ((.slice a f.b.length c)) := blk_cell BF.out 3
  have o_BF_4 : W2.cell? ⟨w.heap.size, 4, none⟩ = some ((.int .u64 (f.t : Int))) := blk_cell BF.out 4
  go_wp2_with fail
  refine (cover_any W1.heap.size [] f a c _ HBF.out (by simp) HF.out (HX.out.mono (fun b _ h => by omega))).mono ?_
  rintro e W3 ⟨rfl, hb, hk⟩
  clear HBF
  have HBF := hid hb
  clear hb
  rw [List.nil_append] at HBF
  clear o_BF_0 o_BF_1 o_BF_2 o_BF_3 o_BF_4
  have HX' : Hd (Sl (fun b => b < w.heap.size) W3 (.slice a f.b.length c) (u8s f.b)) := hid (HX.out.keep hk (fun b h1 h2 h3 => by omega))
  have HN' : Hd (NibR W3) := hid (HN.out.keep hk (fun b h1 h2 h3 => by omega))
  have BF' : Hd (Blk W3 w.heap.size #[(.int .i64 f.q), (.int .i64 f.k), (.bool f.u), (.slice a f.b.length c), (.int .u64 (f.t : Int))] 25) := hid (blk_keep BF.out hk (fun h => by omega))
  clear HX HN BF
  have HX := HX'
  clear HX'
  have HN := HN'
  clear HN'
  have BF := BF'
  clear BF'
  have HK' : Hd (Keeps (fun _ => False) w W3) := hid (HK.out.trans' hk (fun i hi h => by omega))
  clear HK
  have HK := HK'
  clear HK'
  have z_W3 := hk.size
  clear hk
  have HCL := hid (covL_len HF.out)
  have o_BF_4 : W3.cell? ⟨w.heap.size, 4, none⟩ = some ((.int .u64 (f.t : Int))) := blk_cell BF.out 4
  have HB2 := HBF.out.tight
  go_wp2_with fail
  refine (Wi.WUint_any _ W1.heap.size _ f.t _ HB2 (by have := HF.out.t; omega) (by have := HCL.out; have := HF.out.n; omega)).mono ?_
  rintro e W4 ⟨rfl, hp⟩
  obtain ⟨hb3, hk⟩ := Wi.BufAt.post HB2 (fun b h => h.1) hp
  clear HBF HB2 hp
  have HBF := hid hb3
  clear hb3
  clear o_BF_4
  have HX' : Hd (Sl (fun b => b < w.heap.size) W4 (.slice a f.b.length c) (u8s f.b)) := hid (HX.out.keep hk (fun b h1 h2 h3 => by omega))
  have HN' : Hd (NibR W4) := hid (HN.out.keep hk (fun b h1 h2 h3 => by omega))
  have BF' : Hd (Blk W4 w.heap.size #[(.int .i64 f.q), (.int .i64 f.k), (.bool f.u), (.slice a f.b.length c), (.int .u64 (f.t : Int))] 25) := hid (blk_keep BF.out hk (fun h => by omega))
  clear HX HN BF
  have HX := HX'
  clear HX'
  have HN := HN'
  clear HN'
  have BF := BF'
  clear BF'
  have HK' : Hd (Keeps (fun _ => False) w W4) := hid (HK.out.trans' hk (fun i hi h => by omega))
  clear HK
  have HK := HK'
  clear HK'
  have z_W4 := hk.size
  clear hk
  have HPL : Hd ((covL f ++ Wi.enc f.t).length ≤ 140737488351300) := hid (by have h := Wi.enc_len10 (n := f.t) (by have := HF.out.t; omega); have := HCL.out; have := HF.out.n; rw [List.length_append]; omega)
  have HPT : Hd (∀ c ∈ covL f ++ Wi.enc f.t, c < 256) := hid (fun c hc => by rcases List.mem_append.1 hc with hc | hc; exact covL_lt HF.out c hc; exact Wi.enc_lt _ _ hc)
  have HDF : Hd (encF f = Cr.seal_ (covL f ++ Wi.enc f.t)) := hid rfl
  generalize covL f ++ Wi.enc f.t = en at *
  go_wp2_with fail
  refine (Wi.WDone_any _ W1.heap.size en _ HBF.out (by have := HPL.out; omega)).mono ?_
  rintro e W5 ⟨ad, nd, cd, rfl, hnd, hod, hk⟩
  have SD : Hd (Sl (fun _ => True) W5 (.slice ad nd cd) (u8s en)) := hid ((row_sl hod.row hnd.symm).mono (fun _ _ _ => trivial))
  clear hod hnd HBF
  have HX' : Hd (Sl (fun b => b < w.heap.size) W5 (.slice a f.b.length c) (u8s f.b)) := hid (HX.out.keep hk (fun _ _ _ h => h))
  have HN' : Hd (NibR W5) := hid (HN.out.keep hk (fun _ _ _ h => h))
  have BF' : Hd (Blk W5 w.heap.size #[(.int .i64 f.q), (.int .i64 f.k), (.bool f.u), (.slice a f.b.length c), (.int .u64 (f.t : Int))] 25) := hid (blk_keep BF.out hk (fun h => h))
  clear HX HN BF
  have HX := HX'
  clear HX'
  have HN := HN'
  clear HN'
  have BF := BF'
  clear BF'
  have HK' : Hd (Keeps (fun _ => False) w W5) := hid (HK.out.trans hk)
  clear HK
  have HK := HK'
  clear HK'
  have z_W5 := hk.size
  clear hk
  go_wp2_with fail
  refine (Cr.Seal_any _ _ en _ HN.out SD.out HPT.out (by have := HPL.out; omega)).mono ?_
  rw [← HDF.out]
  rintro e W6 ⟨a4, n4, c4, rfl, hn4, ho4, hk⟩
  have HO4 := hid ho4; have HN4 := hid hn4; have HK9 := hid (HK.out.trans hk)
  have z9 := HK.out.size
  clear ho4 hk hn4
  go_wp2
  go_ret
  exact ⟨a4, n4, c4, rfl, HN4.out, HO4.out.mono (fun b _ h => by omega), HK9.out⟩
end Go.Proofs.YthoikljmokkchaaDoor
namespace Go.Proofs.YthoikljmokkchaaDoor
open Go.RowKit
def FrCells (K : Nat → Prop) (w : World) (c : Nat → Value) (x : Fr) : Prop :=
  c 0 = .int .i64 x.q ∧ c 1 = .int .i64 x.k ∧ c 2 = .bool x.u ∧ c 4 = .int .u64 (x.t : Int) ∧ Sl K w (c 3) (u8s x.b)
theorem FrCells.keep {K S : Nat → Prop} {w w' : World} {c : Nat → Value} {x : Fr} (h : FrCells K w c x) (hk : Keeps S w w') (hd : ∀ b, b < w.heap.size → K b → ¬ S b) : FrCells K w' c x := ⟨h.1, h.2.1, h.2.2.1, h.2.2.2.1, h.2.2.2.2.keep hk hd⟩
theorem FrCells.mono {K K' : Nat → Prop} {w : World} {c : Nat → Value} {x : Fr} (h : FrCells K w c x) (hd : ∀ b, b < w.heap.size → K b → K' b) : FrCells K' w c x := ⟨h.1, h.2.1, h.2.2.1, h.2.2.2.1, h.2.2.2.2.mono hd⟩
theorem FrCells.congr {K : Nat → Prop} {w : World} {c c' : Nat → Value} {x : Fr} (h : FrCells K w c x) (e : ∀ j, j < 5 → c' j = c j) : FrCells K w c' x := by
  obtain ⟨h0, h1, h2, h3, h4⟩ := h
  exact ⟨(e 0 (by omega)).trans h0, (e 1 (by omega)).trans h1, (e 2 (by omega)).trans h2, (e 4 (by omega)).trans h3, by rw [e 3 (by omega)]; exact h4⟩
def FrL (K : Nat → Prop) (w : World) (xs : List Value) (l : List Fr) : Prop := xs.length = l.length * 5 ∧ ∀ i x, l[i]? = some x → FrCells K w (fun j => xs.getD (i * 5 + j) undef) x
theorem FrL.keep {K S : Nat → Prop} {w w' : World} {xs : List Value} {l : List Fr} (h : FrL K w xs l) (hk : Keeps S w w') (hd : ∀ b, b < w.heap.size → K b → ¬ S b) : FrL K w' xs l := ⟨h.1, fun i x hi => (h.2 i x hi).keep hk hd⟩
theorem FrL.mono {K K' : Nat → Prop} {w : World} {xs : List Value} {l : List Fr} (h : FrL K w xs l) (hd : ∀ b, b < w.heap.size → K b → K' b) : FrL K' w xs l := ⟨h.1, fun i x hi => (h.2 i x hi).mono hd⟩
theorem FrL.nil (K : Nat → Prop) (w : World) : FrL K w [] [] := ⟨rfl, fun i x h => by simp at h⟩
theorem FrL.append {K : Nat → Prop} {w : World} {xs ys : List Value} {l m : List Fr} (h : FrL K w xs l) (h2 : FrL K w ys m) : FrL K w (xs ++ ys) (l ++ m) := by
  refine ⟨by rw [List.length_append, List.length_append, h.1, h2.1]; omega, fun i y hi => ?_⟩
  rcases Nat.lt_or_ge i l.length with hl | hl
  · rw [List.getElem?_append_left hl] at hi
    refine (h.2 i y hi).congr (fun j hj => ?_)
    unfold List.getD
    rw [List.getElem?_append_left (by rw [h.1]; omega)]
  · rw [List.getElem?_append_right hl] at hi
    refine (h2.2 _ y hi).congr (fun j hj => ?_)
    unfold List.getD
    rw [List.getElem?_append_right (by rw [h.1]; omega), h.1]
    congr 2; omega
theorem FrL.one {K : Nat → Prop} {w : World} {x : Fr} {a : Option Addr} {c : Nat} (h : Sl K w (.slice a x.b.length c) (u8s x.b)) : FrL K w [.int .i64 x.q, .int .i64 x.k, .bool x.u, .slice a x.b.length c, .int .u64 (x.t : Int)] [x] := by
  refine ⟨rfl, fun i y hi => ?_⟩
  match i, hi with
  | 0, hi => simp at hi; subst hi; exact ⟨rfl, rfl, rfl, rfl, h⟩
  | i + 1, hi => simp at hi
theorem FrL.ones {K : Nat → Prop} {w : World} {xs : List Value} {l : List Fr} (h : FrL K w xs l) : ∀ u ∈ xs, u.oneCell' = true := by
  intro u hu
  obtain ⟨p, hp, rfl⟩ := List.getElem_of_mem hu
  have hl := h.1
  have hi : p / 5 < l.length := by omega
  have key : ∀ j, p % 5 = j → xs[p] = xs.getD (p / 5 * 5 + j) undef := fun j hj => by
    have : p / 5 * 5 + j = p := by omega
    rw [this, List.getD, List.getElem?_eq_getElem hp]; rfl
  obtain ⟨c0, c1, c2, c3, c4⟩ := h.2 _ _ (List.getElem?_eq_getElem hi)
  rcases (show p % 5 = 0 ∨ p % 5 = 1 ∨ p % 5 = 2 ∨ p % 5 = 3 ∨ p % 5 = 4 by omega) with hj | hj | hj | hj | hj
  · rw [key 0 hj]; exact (congrArg Value.oneCell' c0).trans rfl
  · rw [key 1 hj]; exact (congrArg Value.oneCell' c1).trans rfl
  · rw [key 2 hj]; exact (congrArg Value.oneCell' c2).trans rfl
  · rw [key 3 hj]
    obtain ⟨a, cap, e, _⟩ := c4.bytes
    exact (congrArg Value.oneCell' e).trans rfl
  · rw [key 4 hj]; exact (congrArg Value.oneCell' c3).trans rfl
def Frs (K : Nat → Prop) (w : World) (v : Value) (l : List Fr) : Prop := ∃ xs, Row K w 5 v l.length xs ∧ FrL K w xs l
theorem Frs.keep {K S : Nat → Prop} {w w' : World} {v : Value} {l : List Fr} (h : Frs K w v l) (hk : Keeps S w w') (hd : ∀ b, b < w.heap.size → K b → ¬ S b) : Frs K w' v l := by
  obtain ⟨xs, h1, h2⟩ := h
  exact ⟨xs, h1.keep hk hd, h2.keep hk hd⟩
theorem Frs.mono {K K' : Nat → Prop} {w : World} {v : Value} {l : List Fr} (h : Frs K w v l) (hd : ∀ b, b < w.heap.size → K b → K' b) : Frs K' w v l := by
  obtain ⟨xs, h1, h2⟩ := h
  exact ⟨xs, h1.mono hd, h2.mono hd⟩
theorem Frs.nil (K : Nat → Prop) (w : World) : Frs K w (.slice none 0 0) [] := ⟨[], ⟨rfl, .inl ⟨rfl, rfl⟩⟩, FrL.nil _ _⟩
theorem Frs.form {K : Nat → Prop} {w : World} {v : Value} {l : List Fr} (h : Frs K w v l) : ∃ a c, v = .slice a l.length c ∧ l.length ≤ c ∧ c ≤ maxLen := by
  obtain ⟨xs, h1, _⟩ := h
  obtain ⟨a, c, e, g1, g2, _⟩ := h1.form
  exact ⟨a, c, e, g1, g2⟩
/-- segments in a row of the call's own; their bytes in KD -/
def FrP (KD : Nat → Prop) (B : Nat) (w : World) (v : Value) (l : List Fr) : Prop :=
  ∃ xs, Own (fun b => v.ownBlock = some b) w 25 5 v l.length xs ∧ (∀ b, v.ownBlock = some b → B ≤ b) ∧ FrL (fun b => KD b ∧ v.ownBlock ≠ some b) w xs l
theorem FrP.nil (KD : Nat → Prop) (B : Nat) (w : World) : FrP KD B w (.slice none 0 0) [] := ⟨[], Own.nil _ _ _ _, fun b h => by simp [Value.ownBlock] at h, FrL.nil _ _⟩
theorem FrP.sgs {KD : Nat → Prop} {B : Nat} {w : World} {v : Value} {l : List Fr} (h : FrP KD B w v l) : Frs (fun b => KD b ∨ B ≤ b) w v l := by
  obtain ⟨xs, h1, h2, h3⟩ := h
  exact ⟨xs, h1.row.mono (fun b _ hb => .inr (h2 b hb)), h3.mono (fun b _ hb => .inl hb.1)⟩
theorem FrP.keep {KD : Nat → Prop} {B : Nat} {S : Nat → Prop} {w w' : World} {v : Value} {l : List Fr} (h : FrP KD B w v l) (hk : Keeps S w w') (hd : ∀ b, b < w.heap.size → (KD b ∨ B ≤ b) → ¬ S b) : FrP KD B w' v l := by
  obtain ⟨xs, h1, h2, h3⟩ := h
  exact ⟨xs, h1.keep hk (fun b hb hh => hd b hb (.inr (h2 b hh))), h2, h3.keep hk (fun b hb hh => hd b hb (.inl hh.1))⟩
theorem frp_append {KD : Nat → Prop} {B : Nat} {wr V w7 : World} {v v7 : Value} {l m : List Fr} {xs ns : List Value}
    (hge : ∀ b, v.ownBlock = some b → B ≤ b) (hc : FrL (fun b => KD b ∧ v.ownBlock ≠ some b) wr xs l)
    (hV : Keeps (fun _ => False) wr V) (hs : FrL (fun b => KD b ∧ v.ownBlock ≠ some b) V ns m) (hB : B ≤ V.heap.size)
    (h7 : Own (fun k => v.ownBlock = some k ∨ V.heap.size ≤ k) w7 25 5 v7 (l.length + m.length) (xs ++ ns)) (hk7 : Keeps (fun b => v.ownBlock = some b) V w7) :
    FrP KD B w7 v7 (l ++ m) := by
  have zV := hV.size
  have key : ∀ b, b < V.heap.size → (KD b ∧ v.ownBlock ≠ some b) → (KD b ∧ v7.ownBlock ≠ some b) ∧ v.ownBlock ≠ some b := fun b hb h => ⟨⟨h.1, fun e => by
    rcases h7.2 b e with h' | h'
    · exact h.2 h'
    · omega⟩, h.2⟩
  refine ⟨_, ⟨by rw [List.length_append]; exact h7.1, fun _ h => h⟩, fun b hb => ?_, ?_⟩
  · rcases h7.2 b hb with h | h
    · exact hge b h
    · omega
  · exact ((((hc.keep hV (fun _ _ _ h => h)).append hs).mono key).keep hk7 (fun b _ h1 h2 => h1.2 h2)).mono (fun b _ h => h.1)
theorem infoFr : (Tryd.prog.info? 25).map (fun i => (i.size, i.bytes)) = some (5, 56) := by kernel_rfl
theorem infoFrz : ((Tryd.prog.info? 25).bind (·.zero)).map (fun z => z.cells) = some #[.int .i64 0, .int .i64 0, .bool false, .slice none 0 0, .int .u64 0] := by kernel_rfl
theorem fr_parts : ∃ i z, Tryd.prog.info? 25 = some i ∧ i.zero = some z ∧ i.size = 5 ∧ i.bytes = 56 ∧ z.cells.size = 5 := by
  obtain ⟨i, hi, h1⟩ := Option.map_eq_some_iff.1 infoFr
  have h2 := infoFrz
  rw [hi] at h2
  obtain ⟨z, hz, h3⟩ := Option.map_eq_some_iff.1 h2
  simp only [Prod.mk.injEq] at h1
  exact ⟨i, z, hi, hz, h1.1, h1.2, by rw [h3]; rfl⟩
theorem frs_cells {K : Nat → Prop} {w : World} {a : Option Addr} {n c : Nat} {l : List Fr} (h : Frs K w (.slice a n c) l) (hl : 0 < l.length) :
    ∃ b o, a = some ⟨b, o, none⟩ ∧ K b ∧ b < w.heap.size ∧ ∀ k x, l[k]? = some x → w.cell? ⟨b, o + k * 5, none⟩ = some (.int .i64 x.q) ∧ w.cell? ⟨b, o + k * 5 + 1, none⟩ = some (.int .i64 x.k) ∧ w.cell? ⟨b, o + k * 5 + 2, none⟩ = some (.bool x.u) ∧ w.cell? ⟨b, o + k * 5 + 4, none⟩ = some (.int .u64 (x.t : Int)) ∧
      ∃ ad cd, w.cell? ⟨b, o + k * 5 + 3, none⟩ = some (.slice ad x.b.length cd) ∧ Sl K w (.slice ad x.b.length cd) (u8s x.b) := by
  obtain ⟨xs, hrow, hc⟩ := h
  obtain ⟨a', c', e, _, _, hel⟩ := hrow.form
  injection e with e1 e2 e3
  subst e1
  obtain ⟨b, o, ea, hK, hb, hcell⟩ := hel hl
  refine ⟨b, o, ea, hK, hb, fun k x hx => ?_⟩
  have hk : k < l.length := (List.getElem?_eq_some_iff.1 hx).1
  obtain ⟨t0, t1, t2, t3, t4⟩ := hc.2 k x hx
  have key : ∀ j, j < 5 → w.cell? ⟨b, o + k * 5 + j, none⟩ = some (xs.getD (k * 5 + j) undef) := fun j hj => by rw [Nat.add_assoc]; exact hcell (k * 5 + j) (by omega)
  obtain ⟨ad, cd, e4, _⟩ := t4.bytes
  have e4' : xs.getD (k * 5 + 3) undef = .slice ad x.b.length cd := e4
  have h4 : Sl K w (.slice ad x.b.length cd) (u8s x.b) := by have h := t4; simp only [e4'] at h; exact h
  exact ⟨(key 0 (by omega)).trans (congrArg some t0), (key 1 (by omega)).trans (congrArg some t1), (key 2 (by omega)).trans (congrArg some t2), (key 4 (by omega)).trans (congrArg some t3), ad, cd, (key 3 (by omega)).trans (congrArg some e4'), h4⟩
theorem lit_rowF (w : World) (cs : Array Value) (t : TypeId) (n size : Nat) (h : cs.size = n * size) (hm : n ≤ maxLen) : Row (fun _ => True) (w.alloc (.cells cs t)) size (.slice (some ⟨w.heap.size, 0, none⟩) n n) n cs.toList :=
  Own.row (S := fun _ => True) ⟨World.ownsRow_lit (base := 0) (e := t) w cs n (Nat.zero_le _) hm h, fun _ _ => trivial⟩
/-- bodies: the cells of a list of byte slices -/
def BdL (K : Nat → Prop) (w : World) (xs : List Value) (l : List (List Nat)) : Prop := xs.length = l.length ∧ ∀ i x, l[i]? = some x → Sl K w (xs.getD i undef) (u8s x)
theorem BdL.keep {K S : Nat → Prop} {w w' : World} {xs : List Value} {l : List (List Nat)} (h : BdL K w xs l) (hk : Keeps S w w') (hd : ∀ b, b < w.heap.size → K b → ¬ S b) : BdL K w' xs l := ⟨h.1, fun i x hi => (h.2 i x hi).keep hk hd⟩
theorem BdL.mono {K K' : Nat → Prop} {w : World} {xs : List Value} {l : List (List Nat)} (h : BdL K w xs l) (hd : ∀ b, b < w.heap.size → K b → K' b) : BdL K' w xs l := ⟨h.1, fun i x hi => (h.2 i x hi).mono hd⟩
theorem BdL.nil (K : Nat → Prop) (w : World) : BdL K w [] [] := ⟨rfl, fun i x h => by simp at h⟩
theorem BdL.append {K : Nat → Prop} {w : World} {xs ys : List Value} {l m : List (List Nat)} (h : BdL K w xs l) (h2 : BdL K w ys m) : BdL K w (xs ++ ys) (l ++ m) := by
  refine ⟨by rw [List.length_append, List.length_append, h.1, h2.1], fun i y hi => ?_⟩
  rcases Nat.lt_or_ge i l.length with hl | hl
  · rw [List.getElem?_append_left hl] at hi
    unfold List.getD
    rw [List.getElem?_append_left (by rw [h.1]; omega)]
    exact h.2 i y hi
  · rw [List.getElem?_append_right hl] at hi
    unfold List.getD
    rw [List.getElem?_append_right (by rw [h.1]; omega), h.1]
    exact h2.2 _ y hi
theorem BdL.one {K : Nat → Prop} {w : World} {x : List Nat} {v : Value} (h : Sl K w v (u8s x)) : BdL K w [v] [x] := by
  refine ⟨rfl, fun i y hi => ?_⟩
  match i, hi with
  | 0, hi => simp at hi; subst hi; exact h
  | i + 1, hi => simp at hi
theorem BdL.ones {K : Nat → Prop} {w : World} {xs : List Value} {l : List (List Nat)} (h : BdL K w xs l) : ∀ u ∈ xs, u.oneCell' = true := by
  intro u hu
  obtain ⟨p, hp, rfl⟩ := List.getElem_of_mem hu
  have hi : p < l.length := by rw [← h.1]; exact hp
  obtain ⟨a, cap, e, _⟩ := (h.2 _ _ (List.getElem?_eq_getElem hi)).bytes
  rw [List.getD, List.getElem?_eq_getElem hp] at e
  exact (congrArg Value.oneCell' e).trans rfl
def Bds (K : Nat → Prop) (w : World) (v : Value) (l : List (List Nat)) : Prop := ∃ xs, Row K w 1 v l.length xs ∧ BdL K w xs l
theorem Bds.keep {K S : Nat → Prop} {w w' : World} {v : Value} {l : List (List Nat)} (h : Bds K w v l) (hk : Keeps S w w') (hd : ∀ b, b < w.heap.size → K b → ¬ S b) : Bds K w' v l := by
  obtain ⟨xs, h1, h2⟩ := h
  exact ⟨xs, h1.keep hk hd, h2.keep hk hd⟩
theorem Bds.mono {K K' : Nat → Prop} {w : World} {v : Value} {l : List (List Nat)} (h : Bds K w v l) (hd : ∀ b, b < w.heap.size → K b → K' b) : Bds K' w v l := by
  obtain ⟨xs, h1, h2⟩ := h
  exact ⟨xs, h1.mono hd, h2.mono hd⟩
theorem Bds.nil (K : Nat → Prop) (w : World) : Bds K w (.slice none 0 0) [] := ⟨[], ⟨rfl, .inl ⟨rfl, rfl⟩⟩, BdL.nil _ _⟩
theorem Bds.form {K : Nat → Prop} {w : World} {v : Value} {l : List (List Nat)} (h : Bds K w v l) : ∃ a c, v = .slice a l.length c ∧ l.length ≤ c ∧ c ≤ maxLen := by
  obtain ⟨xs, h1, _⟩ := h
  obtain ⟨a, c, e, g1, g2, _⟩ := h1.form
  exact ⟨a, c, e, g1, g2⟩
theorem bds_cells {K : Nat → Prop} {w : World} {a : Option Addr} {n c : Nat} {l : List (List Nat)} (h : Bds K w (.slice a n c) l) (hl : 0 < l.length) :
    ∃ b o, a = some ⟨b, o, none⟩ ∧ K b ∧ b < w.heap.size ∧ ∀ k x, l[k]? = some x → ∃ ad cd, w.cell? ⟨b, o + k, none⟩ = some (.slice ad x.length cd) ∧ Sl K w (.slice ad x.length cd) (u8s x) := by
  obtain ⟨xs, hrow, hc⟩ := h
  obtain ⟨a', c', e, _, _, hel⟩ := hrow.form
  injection e with e1 e2 e3
  subst e1
  obtain ⟨b, o, ea, hK, hb, hcell⟩ := hel hl
  refine ⟨b, o, ea, hK, hb, fun k x hx => ?_⟩
  have hk : k < l.length := (List.getElem?_eq_some_iff.1 hx).1
  have t := hc.2 k x hx
  obtain ⟨ad, cd, e4, _⟩ := t.bytes
  exact ⟨ad, cd, (hcell k (by omega)).trans (congrArg some e4), by rw [← e4]; exact t⟩
/-- bodies in a row of the call's own; their bytes in KD -/
def BdP (KD : Nat → Prop) (B : Nat) (w : World) (v : Value) (l : List (List Nat)) : Prop :=
  ∃ xs, Own (fun b => v.ownBlock = some b) w 22 1 v l.length xs ∧ (∀ b, v.ownBlock = some b → B ≤ b) ∧ BdL (fun b => KD b ∧ v.ownBlock ≠ some b) w xs l
theorem BdP.nil (KD : Nat → Prop) (B : Nat) (w : World) : BdP KD B w (.slice none 0 0) [] := ⟨[], Own.nil _ _ _ _, fun b h => by simp [Value.ownBlock] at h, BdL.nil _ _⟩
theorem BdP.bds {KD : Nat → Prop} {B : Nat} {w : World} {v : Value} {l : List (List Nat)} (h : BdP KD B w v l) : Bds (fun b => KD b ∨ B ≤ b) w v l := by
  obtain ⟨xs, h1, h2, h3⟩ := h
  exact ⟨xs, h1.row.mono (fun b _ hb => .inr (h2 b hb)), h3.mono (fun b _ hb => .inl hb.1)⟩
theorem BdP.keep {KD : Nat → Prop} {B : Nat} {S : Nat → Prop} {w w' : World} {v : Value} {l : List (List Nat)} (h : BdP KD B w v l) (hk : Keeps S w w') (hd : ∀ b, b < w.heap.size → (KD b ∨ B ≤ b) → ¬ S b) : BdP KD B w' v l := by
  obtain ⟨xs, h1, h2, h3⟩ := h
  exact ⟨xs, h1.keep hk (fun b hb hh => hd b hb (.inr (h2 b hh))), h2, h3.keep hk (fun b hb hh => hd b hb (.inl hh.1))⟩
theorem bdp_append {KD : Nat → Prop} {B : Nat} {wr V w7 : World} {v v7 : Value} {l m : List (List Nat)} {xs ns : List Value}
    (hge : ∀ b, v.ownBlock = some b → B ≤ b) (hc : BdL (fun b => KD b ∧ v.ownBlock ≠ some b) wr xs l)
    (hV : Keeps (fun _ => False) wr V) (hs : BdL (fun b => KD b ∧ v.ownBlock ≠ some b) V ns m) (hB : B ≤ V.heap.size)
    (h7 : Own (fun k => v.ownBlock = some k ∨ V.heap.size ≤ k) w7 22 1 v7 (l.length + m.length) (xs ++ ns)) (hk7 : Keeps (fun b => v.ownBlock = some b) V w7) :
    BdP KD B w7 v7 (l ++ m) := by
  have zV := hV.size
  have key : ∀ b, b < V.heap.size → (KD b ∧ v.ownBlock ≠ some b) → (KD b ∧ v7.ownBlock ≠ some b) ∧ v.ownBlock ≠ some b := fun b hb h => ⟨⟨h.1, fun e => by
    rcases h7.2 b e with h' | h'
    · exact h.2 h'
    · omega⟩, h.2⟩
  refine ⟨_, ⟨by rw [List.length_append]; exact h7.1, fun _ h => h⟩, fun b hb => ?_, ?_⟩
  · rcases h7.2 b hb with h | h
    · exact hge b h
    · omega
  · exact ((((hc.keep hV (fun _ _ _ h => h)).append hs).mono key).keep hk7 (fun b _ h1 h2 => h1.2 h2)).mono (fun b _ h => h.1)
theorem infoBd : (Tryd.prog.info? 22).map (fun i => (i.zero, i.size, i.bytes)) = some (some (.slice none 0 0), 1, 24) := by kernel_rfl
end Go.Proofs.YthoikljmokkchaaDoor
namespace Go.Proofs.YthoikljmokkchaaDoor
open Go.RowKit
set_option maxRecDepth 100000 in
set_option maxHeartbeats 1000000 in
theorem cloned_any (K : Nat → Prop) (v : Value) (l : List (List Nat)) (w : World) (hv : Bds K w v l) (hl : l.length ≤ 1000000) (hx : ∀ x ∈ l, x.length ≤ 1000000) :
    Calls Tryd.prog 73 #[v] w fun e w' => ∃ a c, e = .returned (.slice a l.length c) ∧ BdP (fun k => w.heap.size ≤ k) w.heap.size w' (.slice a l.length c) l ∧ Keeps (fun _ => False) w w' := by
  obtain ⟨i0, hi, hz0, hz1, hz2⟩ := parts1 infoBd
  obtain ⟨a, cap, rfl, h1, h2⟩ := hv.form
  unfold maxLen at h2
  have HV := hid (hv.mono (K' := fun _ => True) (fun _ _ _ => trivial)); have HX := hid hx
  clear hv hx
  obtain ⟨n, hn⟩ : ∃ n, l.length = n := ⟨_, rfl⟩
  have HN := hid hn
  rw [hn] at HV h1 hl ⊢
  clear hn
  go_enter Tryd.func73, Tryd.ntmps73
  go_wp2_with fail
  go_loopw [3, 8] (fun ov iv wr => ∃ (k : Nat) (a2 : Option Addr) (c2 : Nat), ov = .slice a2 k c2 ∧ iv = .int .i64 (k : Int) ∧ k ≤ n ∧ Hd (BdP (fun b => w.heap.size ≤ b) w.heap.size wr (.slice a2 k c2) (l.take k)) ∧ Hd (Keeps (fun _ => False) w wr)) (fun _ iv _ => n - (intOf iv).toNat)
  case atStart => exact ⟨0, none, 0, rfl, rfl, Nat.zero_le _, hid (by rw [List.take_zero]; exact BdP.nil _ _ _), hid (Keeps.refl _ _)⟩
  case round =>
    obtain ⟨V, rfl⟩ : ∃ V, V = wr := ⟨_, rfl⟩
    obtain ⟨k, a2, c2, rfl, rfl, hk, HO, HK⟩ := hrel
    by_cases hlt : k < n
    · have q1 : (k : Int) < n := by omega
      have q2 : (0 : Int) ≤ k := by omega
      obtain ⟨bx, ox, rfl, -, -, hc⟩ := bds_cells HV.out (by rw [HN.out]; omega)
      have hkl : k < l.length := by rw [HN.out]; exact hlt
      obtain ⟨x, hxk⟩ : ∃ x, l[k]? = some x := ⟨l[k], List.getElem?_eq_getElem hkl⟩
      obtain ⟨ad, cd, hcell0, hsx⟩ := hc k x hxk
      have hcell := keep_cell HK.out (fun h => h) hcell0
      have HSX : Hd (Sl (fun _ => True) V (.slice ad x.length cd) (u8s x)) := hid (hsx.keep HK.out (fun _ _ _ h => h))
      have hxl : x.length ≤ 1000000 := HX.out x (List.mem_of_getElem? hxk)
      have HTK : Hd (l.take (k + 1) = l.take k ++ [x]) := hid (by rw [List.take_add_one, hxk]; rfl)
      have HKL : Hd ((l.take k).length = k) := hid (by rw [List.length_take]; omega)
      clear hc hcell0 hsx hxk hkl
      go_wp2_with fail
      refine (Wi.CloneB_any _ _ x _ HSX.out (by omega)).mono ?_
      rintro e V1 ⟨a4, n4, c4, rfl, hn4, ho4, hk4⟩
      have HN4 : Hd (n4 = x.length) := hid (by rw [hn4, u8s_length])
      have HS4 : Hd (Sl (fun b => V.heap.size ≤ b ∧ b < V1.heap.size) V1 (.slice a4 n4 c4) (u8s x)) := hid (row_sl (ho4.row.mono (fun b hb h => ⟨h, hb⟩)) hn4.symm)
      have HK4 := hid hk4
      have z4 := hk4.size
      have zV := HK.out.size
      obtain ⟨xs, hO, hge, hB⟩ := HO.out
      rw [HKL.out] at hO
      have HOX := hid (hO.keep hk4 (fun _ _ _ h => h)); have HGE := hid hge; have HBX := hid (hB.keep hk4 (fun _ _ _ h => h))
      have HLT : Hd (∀ b, (Value.slice a2 k c2).ownBlock = some b → b < V.heap.size) := hid (fun b hb => by
        rcases hO.1.2 with ⟨h, _⟩ | ⟨g, cap, cur, h, _, h3, _⟩
        · rw [h] at hb; simp [Value.ownBlock] at hb
        · rw [h] at hb; injection hb with hb; subst hb; exact (Array.getElem?_eq_some_iff.1 h3).1)
      clear hn4 ho4 hk4 hO hge hB HO
      go_wp2_with (at_builtin; refine wpList_append_row rfl _ _ 43 rfl 22 i0 (.slice none 0 0) 1 24 Tryd.underlying43 hi hz0 hz1 hz2 rfl (by decide) _ (fun _ => True) _ _ _ _ rfl (HOX.out.alloc _) 1 _ rfl (one_src _ _ _) (by intro u hu; simp at hu; subst hu; rfl) ?h1 ?h2 ?_)
      case h1 => simp [maxLen]; omega
      case h2 => omega
      intro a3 c3 w1 hown hgrow; try intro _
      have HO1 : Hd (BdP (fun b => w.heap.size ≤ b) w.heap.size w1 (.slice a3 (k + 1) c3) (l.take (k + 1))) := hid (by
        rw [HTK.out]
        refine bdp_append (v := .slice a2 k c2) (ns := [.slice a4 n4 c4]) HGE.out HBX.out (keeps_alloc _ _ (.cells #[.slice a4 n4 c4] 22)) (BdL.one ((HS4.out.keep (keeps_alloc (fun _ => False) _ _) (fun _ _ _ h => h)).mono (fun b _ h => ⟨by omega, fun e => by have := HLT.out b e; omega⟩))) (by simp; omega) ?_ (by first | exact hgrow | exact hgrow.mono (fun _ _ h => h))
        rw [HKL.out]
        first | exact hown | simpa using hown)
      have HK1 : Hd (Keeps (fun _ => False) w w1) := hid ((HK.out.trans HK4.out).trans' ((keeps_alloc _ _ (.cells #[.slice a4 n4 c4] 22)).trans hgrow) (fun i hi h => by have := HGE.out i h; omega))
      clear hown hgrow
      go_wp2
      go_roundw
      case rel => exact ⟨k + 1, a3, c3, by first | rfl | go_num, by go_num, by omega, HO1, HK1⟩
      case measure => simp [intOf]; omega
    · have hkn : k = n := by omega
      have q1 : ¬ ((k : Int) < n) := by omega
      have HT : Hd (l.take k = l) := hid (List.take_of_length_le (by rw [HN.out, hkn]; exact Nat.le_refl _))
      rw [HT.out] at HO
      subst hkn
      go_wp2
      go_ret
      exact ⟨a2, c2, rfl, HO.out, HK.out⟩
end Go.Proofs.YthoikljmokkchaaDoor
namespace Go.Proofs.YthoikljmokkchaaDoor
open Go.RowKit
set_option maxRecDepth 100000 in
set_option maxHeartbeats 1000000 in
theorem CloneFr_any (K : Nat → Prop) (v : Value) (l : List Fr) (w : World) (hv : Frs K w v l) (hm : l.length ≤ 1000000) :
    Calls Tryd.prog 65 #[v] w fun e w' => ∃ a c, e = .returned (.slice a l.length c) ∧ FrP (fun b => K b ∧ b < w.heap.size) w.heap.size w' (.slice a l.length c) l ∧ Keeps (fun _ => False) w w' := by
  obtain ⟨i0, zz, hi, hz0, hz1, hz2, hz3⟩ := fr_parts
  have hq : ∀ (w : World) (a : Option Addr) (n c n' c' : Nat), (binOp .eql 31 (.slice a n c) (.slice none n' c')).run Tryd.prog w = .ok (.bool a.isNone) w := fun w a n c n' c' => Lib.run_eql_slice_nil w _ _ a n c n' c' Tryd.underlying31
  obtain ⟨xs, hrow, hc⟩ := hv
  have HC := hid (hc.mono (K' := fun b => K b ∧ b < w.heap.size) (fun b h hk => ⟨hk, h⟩))
  have HB := hid hc.ones
  have HR := hid hrow
  obtain ⟨n, hn⟩ : ∃ n, l.length = n := ⟨_, rfl⟩
  have HN := hid hn
  rw [hn] at hrow HR hm ⊢
  clear hn hc
  rcases hrow with ⟨hl, ⟨rfl, rfl⟩ | ⟨bb, cap, rfl, _, _, _⟩⟩
  · have hxs : xs = [] := List.eq_nil_of_length_eq_zero (by omega)
    subst hxs
    have hl0 : l = [] := List.eq_nil_of_length_eq_zero HN.out
    subst hl0
    clear HR
    go_enter Tryd.func65, Tryd.ntmps65
    go_wp2
    go_ret
    exact ⟨none, 0, rfl, FrP.nil _ _ _, Keeps.refl _ _⟩
  · have HS : Hd (Row K (w.alloc (.cells #[] 25)) 5 (.slice (some bb) n cap) n xs) := hid (HR.out.keep (keeps_alloc (fun _ => False) w (.cells #[] 25)) (fun _ _ _ h => h))
    have HO : Hd (Own (fun k => w.heap.size ≤ k) (w.alloc (.cells #[] 25)) 25 5 (.slice (some ⟨w.heap.size, 0, none⟩) 0 0) 0 []) :=
      hid ⟨World.ownsRow_lit w #[] 0 (Nat.zero_le _) (Nat.zero_le _) rfl, fun k hk => by injection hk with hk; simp at hk; omega⟩
    go_enter Tryd.func65, Tryd.ntmps65
    go_wp2_with (at_builtin; refine wpList_append_row rfl _ _ 31 rfl 25 i0 zz 5 56 Tryd.underlying31 hi hz0 hz1 hz2 hz3 (by decide) _ K _ _ _ _ rfl HO.out n _ rfl HS.out HB.out ?h1 ?h2 ?_)
    case h1 => simp [maxLen]; omega
    case h2 => omega
    intro a1 cap1 w2 hown' hgrow; try intro _
    try simp only [Nat.zero_add, List.nil_append] at hown'
    have H1 := hid hown'; have H2 := hid hgrow; clear hown' hgrow
    go_wp2
    go_ret
    have hk2 : Keeps (fun _ => False) w w2 := (keeps_alloc _ w _).trans' H2.out (fun i hi hs => by omega)
    have h1 := H1.out.mono (K' := fun k => w.heap.size ≤ k) (fun b hb hh => by
        rcases hh with hh | hh
        · exact hh
        · first | omega | (simp at hh; omega))
    refine ⟨a1, cap1, by simp, ⟨xs, ?_, ?_, ?_⟩, hk2⟩
    · rw [HN.out]; exact ⟨by simpa using h1.1, fun _ h => h⟩
    · intro b hb
      first | exact h1.2 b hb | (exact h1.2 b (by simpa using hb))
    · exact (HC.out.keep hk2 (fun _ _ _ h => h)).mono (fun b _ h => ⟨h, fun e => by have := h1.2 b (by simpa using e); have := h.2; omega⟩)
end Go.Proofs.YthoikljmokkchaaDoor
