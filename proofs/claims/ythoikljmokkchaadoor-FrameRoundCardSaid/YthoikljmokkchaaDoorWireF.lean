/- The walks of the reference's reader (package perigeeref02). -/
import Derived.Test.YthoikljmokkchaaDoorWireAll
namespace Go.Proofs.YthoikljmokkchaaDoor.Wi
open Go.RowKit

set_option maxRecDepth 100000 in set_option maxHeartbeats 400000 in
theorem RFail_any (K : Nat → Prop) (p : Nat) (s : St) (c : Int) (w : World) (h : Rd K w p s) :
    Calls Tryd.prog 83 #[.pointer (some ⟨p, 0, none⟩), .int .i64 c] w fun e w' => e = .returned (.tuple #[]) ∧ Rd K w' p (sFail s c) ∧ Keeps (fun k => k = p) w w' := by
  have HR := hid h
  obtain ⟨bv, bs, at_, g1, g2, g3, g4, g5, g6, g7, g8, g9, g10, g11, g12⟩ := h
  obtain ⟨e0, l⟩ := s
  have G := hid (And.intro g6 (And.intro g7 (And.intro g8 (And.intro g9 (And.intro g10 g11))))); have G12 := hid g12
  clear g6 g7 g8 g9 g10 g11 g12
  simp only at g3
  by_cases he : e0 = 0
  · subst he
    go_enter Tryd.func83, Tryd.ntmps83
    go_wp2
    go_end0
    refine ⟨rfl, ?_, keeps_set (fun k => k = p) w _ _ rfl⟩
    rw [show sFail (0, l) c = (c, l) from rfl]
    exact rd_of (e := c) (l := l) (rc_set2 ⟨g1, g2, g3, g4, g5⟩ c) (keeps_set (fun k => k = p) w _ _ rfl) G.out (fun _ => G12.out (by simp))
  · have HE := hid he
    have t1 : (e0 == 0) = false := by simp; exact he
    clear he
    go_enter Tryd.func83, Tryd.ntmps83
    go_wp2
    go_end0
    refine ⟨rfl, ?_, Keeps.refl _ _⟩
    rw [show sFail (e0, l) c = (e0, l) by simp [sFail, HE.out]]
    exact HR.out

/-- the reference's reader, a value -/
def RV (K : Nat → Prop) (w : World) (v : Value) (s : St) : Prop :=
  ∃ bv l, v = .agg #[bv, .int .i64 s.1] ∧ Sl K w bv (u8s l) ∧ l.length ≤ 140737488355000 ∧ (∀ c ∈ l, c < 256) ∧ (s.1 = 0 → s.2 = l)
theorem RV.keep {K S : Nat → Prop} {w w' : World} {v : Value} {s : St} (h : RV K w v s) (hk : Keeps S w w') (hd : ∀ b, b < w.heap.size → K b → ¬ S b) : RV K w' v s := by
  obtain ⟨bv, l, h1, h2, h3⟩ := h
  exact ⟨bv, l, h1, h2.keep hk hd, h3⟩
theorem RV.mono {K K' : Nat → Prop} {w : World} {v : Value} {s : St} (h : RV K w v s) (hd : ∀ b, b < w.heap.size → K b → K' b) : RV K' w v s := by
  obtain ⟨bv, l, h1, h2, h3⟩ := h
  exact ⟨bv, l, h1, h2.mono hd, h3⟩
theorem RV.old {K : Nat → Prop} {w : World} {v : Value} {s : St} (h : RV K w v s) : RV (fun b => K b ∧ b < w.heap.size) w v s := h.mono (fun _ hb h => ⟨h, hb⟩)
def VFPost (e0 c : Int) (a : Option Addr) (n cap : Nat) (w : World) (r : Ending) (w' : World) : Prop := r = .returned (.agg #[.slice a n cap, .int .i64 (if e0 = 0 then c else e0)]) ∧ Keeps (fun _ => False) w w'
set_option maxRecDepth 100000 in set_option maxHeartbeats 400000 in
theorem Vfail_any (a : Option Addr) (n cap : Nat) (e0 c : Int) (w : World) :
    Calls Tryd.prog 113 #[.agg #[.slice a n cap, .int .i64 e0], .int .i64 c] w fun e w' => VFPost e0 c a n cap w e w' := by
  by_cases he : e0 = 0
  · subst he
    go_enter Tryd.func113, Tryd.ntmps113
    go_wp2
    exact bodyPost_ret (v := .agg #[.slice a n cap, .int .i64 c]) (by simp [results, Tryd.results113, go_sem]) rfl ⟨rfl, (by repeat (first | (with_reducible assumption) | (with_reducible exact Keeps.refl _ _) | (with_reducible apply Keeps.drewN) | (with_reducible apply Keeps.drew) | (with_reducible apply Keeps.alloc) | refine Keeps.setCell ?_ (by first | (simp; done) | (simp; omega)) _))⟩
  · have t1 : (e0 == 0) = false := by simp; exact he
    have HE := hid he; clear he
    go_enter Tryd.func113, Tryd.ntmps113
    go_wp2
    exact bodyPost_ret (v := .agg #[.slice a n cap, .int .i64 e0]) (by simp [results, Tryd.results113, go_sem]) rfl ⟨by rw [if_neg HE.out], (by repeat (first | (with_reducible assumption) | (with_reducible exact Keeps.refl _ _) | (with_reducible apply Keeps.drewN) | (with_reducible apply Keeps.drew) | (with_reducible apply Keeps.alloc) | refine Keeps.setCell ?_ (by first | (simp; done) | (simp; omega)) _))⟩

theorem grp2 (acc c k P : Nat) (hP : P = 128 ^ k) (hk : k ≤ 9) (h9 : k = 9 → c = 1) (ha : acc < 128 ^ k) :
    IntKind.u64.wrap ((acc : Int) + IntKind.u64.wrap ((c : Int) % 128 * (P : Int))) = ((acc + c % 128 * 128 ^ k : Nat) : Int) := by
  subst hP
  have hp : (128 : Nat) ^ k ≤ 128 ^ 9 := Nat.pow_le_pow_right (by decide) hk
  have h128 : (128 : Nat) ^ 9 = 9223372036854775808 := by decide
  have h3 : acc + c % 128 * 128 ^ k < 18446744073709551616 := by
    by_cases h : k = 9
    · have := h9 h; subst this; subst h; simp at *; omega
    · have hp8 : (128 : Nat) ^ k ≤ 128 ^ 8 := Nat.pow_le_pow_right (by decide) (by omega)
      have h128 : (128 : Nat) ^ 8 = 72057594037927936 := by decide
      have := Nat.mul_le_mul (show c % 128 ≤ 127 by omega) hp8
      omega
  rw [show (c : Int) % 128 * ((128 ^ k : Nat) : Int) = ((c % 128 * 128 ^ k : Nat) : Int) by rw [Int.natCast_mul]; rfl, wrap_u64 ((c % 128 * 128 ^ k : Nat) : Int), show ((c % 128 * 128 ^ k : Nat) : Int) % 18446744073709551616 = ((c % 128 * 128 ^ k : Nat) : Int) by omega, wrap_u64]
  omega
theorem pow_next (k P : Nat) (hP : P = 128 ^ k) (hk : k < 9) : IntKind.u64.wrap ((P : Int) * 128) = ((P * 128 : Nat) : Int) := by
  subst hP
  have hp : (128 : Nat) ^ k ≤ 128 ^ 8 := Nat.pow_le_pow_right (by decide) (by omega)
  have h128 : (128 : Nat) ^ 8 = 72057594037927936 := by decide
  rw [wrap_u64]; omega

def VUPost (K : Nat → Prop) (w : World) (s : St) (r : Ending) (w' : World) : Prop := ∃ v, r = .returned (.tuple #[v, .int .u64 ((sU s).2 : Nat)]) ∧ RV K w' v (sU s).1 ∧ Keeps (fun _ => False) w w'
theorem rv_of {K : Nat → Prop} {w w' : World} {a : Option Addr} {n cap : Nat} {l : List Nat} {e : Int} {l0 : List Nat} (h : Sl K w (.slice a n cap) (u8s l)) (hl : l.length ≤ 140737488355000) (hb : ∀ c ∈ l, c < 256) (hk : Keeps (fun _ => False) w w') (he : e = 0 → l0 = l) :
    RV K w' (.agg #[.slice a n cap, .int .i64 e]) (e, l0) := ⟨_, l, rfl, h.keep hk (fun _ _ _ h => h), hl, hb, he⟩
set_option maxRecDepth 100000 in set_option maxHeartbeats 1000000 in
theorem VUint_any (K : Nat → Prop) (v : Value) (s : St) (w : World) (h : RV K w v s) :
    Calls Tryd.prog 89 #[v] w fun e w' => VUPost K w s e w' := by
  obtain ⟨i0, hi, hz0, hz1, hz2⟩ := info_parts infoU8
  have HR := hid h
  obtain ⟨bv, l, rfl, h1, h2, h3, h4⟩ := h
  obtain ⟨e0, l0⟩ := s
  simp only at HR h4 ⊢
  have HS := hid h1; have HB := hid h3
  obtain ⟨a, cap, rfl, hc1, hc2, hv⟩ := h1.bytes
  have HV := hid hv
  clear h1 h3 hv
  by_cases he : e0 = 0
  · subst he
    obtain rfl := h4 rfl
    clear h4
    generalize hbl : l0.length = n at *
    have HBL := hid hbl; clear hbl
    go_enter Tryd.func89, Tryd.ntmps89
    go_wp2
    go_loop [4, 5, 6] (fun x pw i => ∃ (k acc P : Nat), x = .int .u64 acc ∧ pw = .int .u64 P ∧ i = .int .i64 k ∧ k ≤ 9 ∧ k ≤ n ∧ Hd (P = 128 ^ k)
       ∧ Hd (acc < 128 ^ k) ∧ Hd (rdU 0 0 l0 = rdU k acc (l0.drop k))) (fun _ _ i => 10 - (intOf i).toNat)
    case atStart => exact ⟨0, 0, 1, rfl, rfl, rfl, by omega, by omega, hid rfl, hid (by decide), hid rfl⟩
    case round =>
      obtain ⟨k, acc, P, rfl, rfl, rfl, hk, hkn, hP, hacc, hrd⟩ := hrel
      by_cases hlt : k < n
      · obtain ⟨b1, o1, rfl, hKb, hb1, d1⟩ := HV.out (by omega)
        have e1 : w.cell? ⟨b1, o1 + k, none⟩ = some (.int .u8 (l0.getD k 0 : Nat)) := d1 k hlt
        have HC : Hd (l0.getD k 0 < 256 ∧ l0.drop k = l0.getD k 0 :: l0.drop (k + 1)) := hid (by
          have := HBL.out
          refine ⟨HB.out _ (by simp [List.getD, this, hlt]), ?_⟩
          rw [List.drop_eq_getElem_cons (by omega)]; simp [List.getD, this, hlt])
        have hbn : b1 < w.heap.size := hb1
        clear d1 hb1 hKb
        generalize l0.getD k 0 = c at *
        have hj0 : (0 : Int) ≤ (k : Int) := by omega
        have hj1 : (k : Int) < n := by omega
        have hj2 : (k : Int) < 10 := by omega
        have hc256 : c < 256 := HC.out.1
        by_cases hbad : (k = 9 ∧ c ≠ 1) ∨ (0 < k ∧ c = 0)
        · have HF : Hd (sU (0, l0) = ((7, []), 0)) := hid (by simp only [sU, if_true]; rw [hrd.out, HC.out.2, ru_bad hbad])
          have hb1 : (k = 9 ∧ c ≠ 1) ∨ (¬ k = 9 ∧ 0 < k ∧ c = 0) := by omega
          clear hbad
          rcases hb1 with ⟨hk9, hc1⟩ | ⟨hk9, hk0, rfl⟩
          · have t1 : ((k : Int) == 9) = true := by simp; omega
            have t2 : ((c : Int) != 1) = true := by simp; omega
            clear hk9 hc1
            go_wp2_with fail
            refine (Vfail_any _ n cap 0 7 _).mono ?_
            rintro e w1 ⟨rfl, hk1⟩
            have f0 : w1.cell? ⟨w.heap.size + 1, 0, none⟩ = some (.slice none 0 0) := keep_cell hk1 (fun h => h) (by simp)
            have f1 : w1.cell? ⟨w.heap.size + 1, 1, none⟩ = some (.int .i64 0) := keep_cell hk1 (fun h => h) (by simp)
            have f2 : w1.frozen? ⟨w.heap.size + 1, 0, none⟩ = false := keep_free hk1 (fun h => h) (v := .slice none 0 0) (by simp) (by simp)
            have f3 : w1.frozen? ⟨w.heap.size + 1, 1, none⟩ = false := keep_free hk1 (fun h => h) (v := .int .i64 0) (by simp) (by simp)
            have HKW : Hd (Keeps (fun _ => False) w w1) := hid ((((Keeps.refl _ w).alloc _).alloc _).trans hk1); clear hk1
            go_wp2
            refine bodyPost_ret (v := .tuple #[.agg #[.slice (some ⟨b1, o1, none⟩) n cap, .int .i64 7], .int .u64 0]) (by simp [results, Tryd.results89, go_sem, f0, f1]) rfl ?_
            have hkk := (HKW.out.setCell (p := ⟨w.heap.size + 1, 0, none⟩) (.inr (by simp)) (.slice (some ⟨b1, o1, none⟩) n cap)).setCell (p := ⟨w.heap.size + 1, 1, none⟩) (.inr (by simp)) (.int .i64 7)
            exact ⟨_, by rw [HF.out]; rfl, by rw [HF.out]; exact rv_of HS.out (by rw [HBL.out]; exact h2) HB.out hkk (by simp), hkk⟩
          · have t1 : ((k : Int) == 9) = false := by simp; omega
            clear hk9
            go_wp2_with fail
            refine (Vfail_any _ n cap 0 7 _).mono ?_
            rintro e w1 ⟨rfl, hk1⟩
            have f0 : w1.cell? ⟨w.heap.size + 1, 0, none⟩ = some (.slice none 0 0) := keep_cell hk1 (fun h => h) (by simp)
            have f1 : w1.cell? ⟨w.heap.size + 1, 1, none⟩ = some (.int .i64 0) := keep_cell hk1 (fun h => h) (by simp)
            have f2 : w1.frozen? ⟨w.heap.size + 1, 0, none⟩ = false := keep_free hk1 (fun h => h) (v := .slice none 0 0) (by simp) (by simp)
            have f3 : w1.frozen? ⟨w.heap.size + 1, 1, none⟩ = false := keep_free hk1 (fun h => h) (v := .int .i64 0) (by simp) (by simp)
            have HKW : Hd (Keeps (fun _ => False) w w1) := hid ((((Keeps.refl _ w).alloc _).alloc _).trans hk1); clear hk1
            go_wp2
            refine bodyPost_ret (v := .tuple #[.agg #[.slice (some ⟨b1, o1, none⟩) n cap, .int .i64 7], .int .u64 0]) (by simp [results, Tryd.results89, go_sem, f0, f1]) rfl ?_
            have hkk := (HKW.out.setCell (p := ⟨w.heap.size + 1, 0, none⟩) (.inr (by simp)) (.slice (some ⟨b1, o1, none⟩) n cap)).setCell (p := ⟨w.heap.size + 1, 1, none⟩) (.inr (by simp)) (.int .i64 7)
            exact ⟨_, by rw [HF.out]; rfl, by rw [HF.out]; exact rv_of HS.out (by rw [HBL.out]; exact h2) HB.out hkk (by simp), hkk⟩
        · have HN1 := hid (show ¬ (k = 9 ∧ c ≠ 1) from fun h => hbad (.inl h)); have HN2 := hid (show ¬ (0 < k ∧ c = 0) from fun h => hbad (.inr h)); clear hbad
          have HG := hid (grp2 acc c k P hP.out hk (fun h => by have := HN1.out; omega) hacc.out)
          have tA : (((k : Int) == 9) = true ∧ ((c : Int) != 1) = false ∧ (0 : Int) < (k : Int) ∧ ((c : Int) == 0) = false) ∨ (((k : Int) == 9) = false ∧ (0 : Int) < (k : Int) ∧ ((c : Int) == 0) = false) ∨ (((k : Int) == 9) = false ∧ (k : Int) ≤ 0) := by
            have h1 := HN1.out
            have h2 := HN2.out
            by_cases h : k = 9
            · left; simp; omega
            · right
              by_cases h0 : 0 < k
              · left; simp; omega
              · right; simp; omega
          by_cases hsm : c < 128
          · have hsm1 : (c : Int) < 128 := by omega
            have HF : Hd (sU (0, l0) = ((0, l0.drop (k + 1)), acc + c % 128 * 128 ^ k)) := hid (by simp only [sU, if_true]; rw [hrd.out, HC.out.2, ru_last HN1.out HN2.out hsm])
            obtain ⟨a2, c2, hcut, hrow2⟩ := run_cut_from (P := Tryd.prog) (t := 22) Tryd.underlying22 hi hz1 (sl_row HS.out (by simp [HBL.out])) (lo := (k : Int) + 1) (k + 1) rfl (by omega)
            have hS2 : Sl K w (.slice a2 (n - (k + 1)) c2) (u8s (l0.drop (k + 1))) := by
              have : ((u8s l0).drop ((k + 1) * 1)).take ((n - (k + 1)) * 1) = u8s (l0.drop (k + 1)) := by
                rw [List.take_of_length_le (by simp [HBL.out])]; simp [u8s, List.map_drop]
              rw [this] at hrow2
              exact row_sl hrow2 (by simp [HBL.out])
            have HS2 := hid hS2; clear hrow2 hS2
            rcases tA with ⟨t1, t2, t3, t4⟩ | ⟨t1, t3, t4⟩ | ⟨t1, t3⟩
            all_goals
              go_wp2
              refine bodyPost_ret (v := .tuple #[.agg #[.slice a2 (n - (k + 1)) c2, .int .i64 0], .int .u64 (IntKind.u64.wrap (↑acc + IntKind.u64.wrap (↑c % 128 * ↑P)))]) (by simp [results, Tryd.results89, go_sem]) rfl ?_
              refine ⟨_, by rw [HF.out, HG.out], ?_, (by repeat (first | (with_reducible assumption) | (with_reducible exact Keeps.refl _ _) | (with_reducible apply Keeps.drewN) | (with_reducible apply Keeps.drew) | (with_reducible apply Keeps.alloc) | refine Keeps.setCell ?_ (by first | (simp; done) | (simp; omega)) _))⟩
              rw [HF.out]
              exact rv_of HS2.out (by simp [HBL.out]; omega) (fun x hx => HB.out x (List.mem_of_mem_drop hx)) (by repeat (first | (with_reducible assumption) | (with_reducible exact Keeps.refl _ _) | (with_reducible apply Keeps.drewN) | (with_reducible apply Keeps.drew) | (with_reducible apply Keeps.alloc) | refine Keeps.setCell ?_ (by first | (simp; done) | (simp; omega)) _)) (fun _ => rfl)
          · have hsm1 : (128 : Int) ≤ c := by omega
            have HF : Hd (rdU 0 0 l0 = rdU (k + 1) (acc + c % 128 * 128 ^ k) (l0.drop (k + 1))) := hid (by rw [hrd.out, HC.out.2, ru_next HN1.out HN2.out hsm])
            have h9 : k ≠ 9 := by have := HN1.out; omega
            have HP := hid (pow_next k P hP.out (by omega))
            rcases tA with ⟨t1, t2, t3, t4⟩ | ⟨t1, t3, t4⟩ | ⟨t1, t3⟩
            · exact absurd (by simpa using t1) (by omega)
            all_goals
              clear h9
              go_wp2
              go_round
              case rel =>
                exact ⟨k + 1, acc + c % 128 * 128 ^ k, P * 128, by rw [HG.out], by rw [HP.out], by go_num, by have := HN1.out; simp at t1; omega, by omega, hid (by rw [hP.out, Nat.pow_succ]), hid (acc_next hacc.out), HF⟩
              case measure => simp [intOf]; omega
      · have hlt1 : (n : Int) ≤ k := by omega
        have HF : Hd (sU (0, l0) = ((6, []), 0)) := hid (by simp only [sU, if_true]; rw [hrd.out, List.drop_eq_nil_of_le (by rw [HBL.out]; omega)]; rfl)
        have hj2 : (k : Int) < 10 := by omega
        go_wp2_with fail
        refine (Vfail_any _ n cap 0 6 _).mono ?_
        rintro e w1 ⟨rfl, hk1⟩
        have f0 : w1.cell? ⟨w.heap.size + 1, 0, none⟩ = some (.slice none 0 0) := keep_cell hk1 (fun h => h) (by simp)
        have f1 : w1.cell? ⟨w.heap.size + 1, 1, none⟩ = some (.int .i64 0) := keep_cell hk1 (fun h => h) (by simp)
        have f2 : w1.frozen? ⟨w.heap.size + 1, 0, none⟩ = false := keep_free hk1 (fun h => h) (v := .slice none 0 0) (by simp) (by simp)
        have f3 : w1.frozen? ⟨w.heap.size + 1, 1, none⟩ = false := keep_free hk1 (fun h => h) (v := .int .i64 0) (by simp) (by simp)
        have HKW : Hd (Keeps (fun _ => False) w w1) := hid ((((Keeps.refl _ w).alloc _).alloc _).trans hk1); clear hk1
        go_wp2
        refine bodyPost_ret (v := .tuple #[.agg #[.slice a n cap, .int .i64 6], .int .u64 0]) (by simp [results, Tryd.results89, go_sem, f0, f1]) rfl ?_
        have hkk := (HKW.out.setCell (p := ⟨w.heap.size + 1, 0, none⟩) (.inr (by simp)) (.slice a n cap)).setCell (p := ⟨w.heap.size + 1, 1, none⟩) (.inr (by simp)) (.int .i64 6)
        exact ⟨_, by rw [HF.out]; rfl, by rw [HF.out]; exact rv_of HS.out (by rw [HBL.out]; exact h2) HB.out hkk (by simp), hkk⟩
  · have HE := hid he; clear h4
    have t1 : (e0 != 0) = true := by simp; exact he
    have hsl := hid HS.out
    clear he
    generalize hbl : l.length = n at *
    have HBL := hid hbl; clear hbl
    go_enter Tryd.func89, Tryd.ntmps89
    go_wp2
    refine bodyPost_ret (v := .tuple #[.agg #[.slice a n cap, .int .i64 e0], .int .u64 0]) (by simp [results, Tryd.results89, go_sem]) rfl ?_
    refine ⟨_, by rw [sU_err (s := (e0, l0)) HE.out]; rfl, ?_, (by repeat (first | (with_reducible assumption) | (with_reducible exact Keeps.refl _ _) | (with_reducible apply Keeps.drewN) | (with_reducible apply Keeps.drew) | (with_reducible apply Keeps.alloc) | refine Keeps.setCell ?_ (by first | (simp; done) | (simp; omega)) _))⟩
    rw [sU_err (s := (e0, l0)) HE.out]
    exact rv_of HS.out (by rw [HBL.out]; exact h2) HB.out (by repeat (first | (with_reducible assumption) | (with_reducible exact Keeps.refl _ _) | (with_reducible apply Keeps.drewN) | (with_reducible apply Keeps.drew) | (with_reducible apply Keeps.alloc) | refine Keeps.setCell ?_ (by first | (simp; done) | (simp; omega)) _)) (fun h => absurd h HE.out)
end Go.Proofs.YthoikljmokkchaaDoor.Wi
