/- The walks of package wire's Reader. -/
import Derived.Test.YtgeicbjlichdgaaDoorWireW
namespace Go.Proofs.YtgeicbjlichdgaaDoor.Wi
open Go.RowKit

theorem grp (acc c k : Nat) (hc : c < 256) (hk : k ≤ 9) (h9 : k = 9 → c = 1) (ha : acc < 128 ^ k) :
    bits BinOp.or IntKind.u64 (acc : Int) (IntKind.u64.wrap (IntKind.u64.wrap (bits BinOp.and IntKind.u8 (c : Int) 127) * 2 ^ (7 * k))) = ((acc + c % 128 * 128 ^ k : Nat) : Int) := by
  have h1 : bits BinOp.and IntKind.u8 (c : Int) 127 = ((c % 128 : Nat) : Int) := by
    have := u8_and_nat c 127 hc (by omega)
    rw [nat_mask7] at this
    exact this
  have hp : (128 : Nat) ^ k ≤ 128 ^ 9 := Nat.pow_le_pow_right (by decide) hk
  have h128 : (128 : Nat) ^ 9 = 9223372036854775808 := by decide
  have h2 : (2 : Int) ^ (7 * k) = ((128 ^ k : Nat) : Int) := by
    rw [Int.pow_mul]; simp
  have h3 : c % 128 * 128 ^ k < 18446744073709551616 := by
    by_cases h : k = 9
    · have := h9 h; subst this; subst h; decide
    · have hp8 : (128 : Nat) ^ k ≤ 128 ^ 8 := Nat.pow_le_pow_right (by decide) (by omega)
      have h128 : (128 : Nat) ^ 8 = 72057594037927936 := by decide
      have := Nat.mul_le_mul (show c % 128 ≤ 127 by omega) hp8
      omega
  rw [h1, h2, wrap_u64 ((c % 128 : Nat) : Int), show ((c % 128 : Nat) : Int) % 18446744073709551616 = ((c % 128 : Nat) : Int) by omega, ← Int.natCast_mul, wrap_u64, show ((c % 128 * 128 ^ k : Nat) : Int) % 18446744073709551616 = ((c % 128 * 128 ^ k : Nat) : Int) by omega,
    u64_or_nat _ _ (by omega) h3, Nat.or_comm, nat_join (7 * k) _ _ (by rw [Nat.pow_mul]; exact Nat.mul_mod_left _ _) (by rw [Nat.pow_mul]; exact ha), Nat.add_comm]

/-- the three cells of a reader -/
def RC (w : World) (p : Nat) (bv : Value) (j : Nat) (e : Int) : Prop :=
  w.cell? ⟨p, 0, none⟩ = some bv ∧ w.cell? ⟨p, 1, none⟩ = some (.int .i64 (j : Nat)) ∧ w.cell? ⟨p, 2, none⟩ = some (.int .i64 e) ∧ w.frozen? ⟨p, 1, none⟩ = false ∧ w.frozen? ⟨p, 2, none⟩ = false
theorem rc_drewN {w : World} {p : Nat} {bv : Value} {j : Nat} {e : Int} (h : RC w p bv j e) (n : Nat) : RC (w.drewN n) p bv j e := h
theorem rc_drew {w : World} {p : Nat} {bv : Value} {j : Nat} {e : Int} (h : RC w p bv j e) : RC w.drew p bv j e := h
theorem rc_set1 {w : World} {p : Nat} {bv : Value} {j : Nat} {e : Int} (h : RC w p bv j e) (i : Nat) {x : Int} (hx : x = (i : Nat)) : RC (w.setCell ⟨p, 1, none⟩ (.int .i64 x)) p bv i e := by
  subst hx
  obtain ⟨h0, h1, h2, h3, h4⟩ := h
  exact ⟨(World.cell?_setCell_other w _ _ _ (by simp)).trans h0, World.cell?_setCell_same w _ _ h1, (World.cell?_setCell_other w _ _ _ (by simp)).trans h2, by rw [World.frozen?_setCell]; exact h3, by rw [World.frozen?_setCell]; exact h4⟩
theorem rc_set2 {w : World} {p : Nat} {bv : Value} {j : Nat} {e : Int} (h : RC w p bv j e) (i : Int) : RC (w.setCell ⟨p, 2, none⟩ (.int .i64 i)) p bv j i := by
  obtain ⟨h0, h1, h2, h3, h4⟩ := h
  exact ⟨(World.cell?_setCell_other w _ _ _ (by simp)).trans h0, (World.cell?_setCell_other w _ _ _ (by simp)).trans h1, World.cell?_setCell_same w _ _ h2, by rw [World.frozen?_setCell]; exact h3, by rw [World.frozen?_setCell]; exact h4⟩


def RUPost (K : Nat → Prop) (w : World) (p : Nat) (s : St) (r : Ending) (w' : World) : Prop := r = .returned (.int .u64 ((sU s).2 : Nat)) ∧ Rd K w' p (sU s).1 ∧ Keeps (fun k => k = p) w w'
/-- the last step of a read: the reader's cells at the end -/
theorem ru_end {K : Nat → Prop} {w w' : World} {p : Nat} {bv : Value} {bs l : List Nat} {j x : Nat} {e v : Int} (hv : v = (x : Nat)) (hc : RC w' p bv j e) (hk : Keeps (fun k => k = p) w w') (hs : Sl K w bv (u8s bs)) (hK : ¬ K p) (hp : p < w.heap.size) (hj : j ≤ bs.length)
    (hb : bs.length ≤ 140737488351232) (hbs : ∀ c ∈ bs, c < 256) (hu : (sU (0, l)).1.1 = e) (hr : e = 0 → (sU (0, l)).1.2 = bs.drop j) (hx : (sU (0, l)).2 = x) : RUPost K w p (0, l) (.returned (.int .u64 v)) w' := by
  subst hv hx
  obtain ⟨h0, h1, h2, h3, h4⟩ := hc
  exact ⟨rfl, ⟨bv, bs, j, h0, h1, by rw [hu]; exact h2, h3, h4, hs.keep hk (fun b _ hb => by rintro rfl; exact hK hb), hK, Nat.lt_of_lt_of_le hp hk.size, hj, hb, hbs, fun h => hr (by rw [← hu]; exact h)⟩, hk⟩
theorem ru_next {c k acc : Nat} {r : List Nat} (h1 : ¬ (k = 9 ∧ c ≠ 1)) (h2 : ¬ (0 < k ∧ c = 0)) (h3 : ¬ c < 128) : rdU k acc (c :: r) = rdU (k + 1) (acc + c % 128 * 128 ^ k) r := by
  rw [rdU, if_neg (by rintro (h | h); exact h1 h; exact h2 h), if_neg h3]
theorem ru_last {c k acc : Nat} {r : List Nat} (h1 : ¬ (k = 9 ∧ c ≠ 1)) (h2 : ¬ (0 < k ∧ c = 0)) (h3 : c < 128) : rdU k acc (c :: r) = (0, r, acc + c % 128 * 128 ^ k) := by
  rw [rdU, if_neg (by rintro (h | h); exact h1 h; exact h2 h), if_pos h3]
theorem ru_bad {c k acc : Nat} {r : List Nat} (h : (k = 9 ∧ c ≠ 1) ∨ (0 < k ∧ c = 0)) : rdU k acc (c :: r) = (7, [], 0) := by rw [rdU, if_pos h]
theorem acc_next {c k acc : Nat} (ha : acc < 128 ^ k) : acc + c % 128 * 128 ^ k < 128 ^ (k + 1) := by
  have := Nat.mul_le_mul_right (128 ^ k) (show c % 128 ≤ 127 by omega)
  rw [Nat.pow_succ]; omega

set_option maxRecDepth 100000 in set_option maxHeartbeats 400000 in
theorem RUint_any (K : Nat → Prop) (p : Nat) (s : St) (w : World) (h : Rd K w p s) :
    Calls Tryd.prog 72 #[.pointer (some ⟨p, 0, none⟩)] w fun e w' => RUPost K w p s e w' := by
  have HR := hid h
  obtain ⟨bv, bs, at0, h1, h2, h3, h4, h5, h6, h7, h8, h9, h10, h11, h12⟩ := h
  obtain ⟨ev, l⟩ := s
  simp only at h3 h12
  by_cases he : ev = 0
  · subst he
    have HL := hid (h12 rfl); clear h12
    have H6 := hid h6; have H7 := hid h7; have H8 := hid h8; have H10 := hid h10; have H11 := hid h11; have H9 := hid h9; clear h10 h11
    obtain ⟨a, cap, rfl, hc1, hc2, hv⟩ := h6.bytes
    clear h6 hc1 hc2
    have HV := hid hv; clear hv
    have HRC : Hd (RC w p (.slice a bs.length cap) at0 0) := hid ⟨h1, h2, h3, h4, h5⟩
    generalize hbl : bs.length = n at *
    have HBL := hid hbl; clear hbl
    have hn : n ≤ 140737488351232 := H10.out
    go_enter Tryd.func72, Tryd.ntmps72
    go_wp2
    go_step3
    go_wp2
    go_step3
    go_wp2
    go_loopw [3, 4] (fun x i wr => ∃ (k acc j : Nat), x = .int .u64 acc ∧ i = .int .i64 k ∧ k ≤ 9 ∧ j ≤ n ∧ Hd (RC wr p (.slice a n cap) j 0)
       ∧ Hd (acc < 128 ^ k) ∧ Hd (rdU 0 0 l = rdU k acc (bs.drop j)) ∧ Hd (Keeps (fun k => k = p) w wr)) (fun _ i _ => 10 - (intOf i).toNat)
    case atStart => exact ⟨0, 0, at0, rfl, rfl, by omega, h9, HRC, hid (by decide), hid (by rw [HL.out]), hid (Keeps.refl _ _)⟩
    case round =>
      clear h1 h2 h3 h4 h5 h7 h8 h9
      obtain ⟨k, acc, j, rfl, rfl, hk, hj, hrc, hacc, hrd, hkeep⟩ := hrel
      obtain ⟨h1, h2, h3, h4, h5⟩ := hrc.out
      by_cases hlt : j < n
      · obtain ⟨b1, o1, rfl, hKb, hb1, d1⟩ := HV.out (by omega)
        have e1 : wr.cell? ⟨b1, o1 + j, none⟩ = some (.int .u8 (bs.getD j 0 : Nat)) := by
          rw [hkeep.out.cell (p := ⟨b1, o1 + j, none⟩) hb1 (by rintro rfl; exact H7.out hKb)]
          exact d1 j hlt
        have HC : Hd (bs.getD j 0 < 256 ∧ bs.drop j = bs.getD j 0 :: bs.drop (j + 1)) := hid (by
          have := HBL.out
          refine ⟨H11.out _ (by simp [List.getD, this, hlt]), ?_⟩
          rw [List.drop_eq_getElem_cons (by omega)]; simp [List.getD, this, hlt])
        clear d1 hb1 hKb
        generalize bs.getD j 0 = c at *
        have hj0 : (0 : Int) ≤ (j : Int) := by omega
        have hj1 : (j : Int) < n := by omega
        have hjn : ((j : Int) == (n : Int)) = false := by simp; omega
        have hc256 : c < 256 := HC.out.1
        by_cases hbad : (k = 9 ∧ c ≠ 1) ∨ (0 < k ∧ c = 0)
        · have HF : Hd (sU (0, l) = ((7, []), 0)) := hid (by simp only [sU, if_true]; rw [hrd.out, HC.out.2, ru_bad hbad])
          have hb1 : (k = 9 ∧ c ≠ 1) ∨ (¬ k = 9 ∧ 0 < k ∧ c = 0) := by omega
          clear hbad
          rcases hb1 with ⟨hk9, hc1⟩ | ⟨hk9, hk0, rfl⟩
          · have t1 : ((k : Int) == 9) = true := by simp; omega
            have t2 : ((c : Int) != 1) = true := by simp; omega
            clear hk9 hc1
            go_wp2
            go_quiet (fail)
            go_wp2
            go_quiet (fail)
            go_wp2
            rw [Exit.noGoto_ret]
            go_ret
            exact ru_end rfl (bs := bs) (j := j) (x := 0) (e := 7) (rc_drewN (rc_set2 hrc.out 7) _) ((hkeep.out.setCell (.inl rfl) _).drewN _) H6.out H7.out H8.out (by rw [HBL.out]; exact hj) (by rw [HBL.out]; exact H10.out) H11.out (by rw [HF.out]) (by simp) (by rw [HF.out])
          · have t1 : ((k : Int) == 9) = false := by simp; omega
            clear hk9
            go_wp2
            go_quiet (fail)
            go_wp2
            go_quiet (fail)
            go_wp2
            rw [Exit.noGoto_ret]
            go_ret
            exact ru_end rfl (bs := bs) (j := j) (x := 0) (e := 7) (rc_drewN (rc_set2 hrc.out 7) _) ((hkeep.out.setCell (.inl rfl) _).drewN _) H6.out H7.out H8.out (by rw [HBL.out]; exact hj) (by rw [HBL.out]; exact H10.out) H11.out (by rw [HF.out]) (by simp) (by rw [HF.out])
        · have HN1 := hid (show ¬ (k = 9 ∧ c ≠ 1) from fun h => hbad (.inl h)); have HN2 := hid (show ¬ (0 < k ∧ c = 0) from fun h => hbad (.inr h)); clear hbad
          have HG := hid (grp acc c k hc256 hk (fun h => by have := HN1.out; omega) hacc.out)
          have tA : (((k : Int) == 9) = true ∧ ((c : Int) != 1) = false ∧ (0 : Int) < (k : Int) ∧ ((c : Int) == 0) = false) ∨ (((k : Int) == 9) = false ∧ (0 : Int) < (k : Int) ∧ ((c : Int) == 0) = false) ∨ (((k : Int) == 9) = false ∧ (k : Int) ≤ 0) := by
            have h1 := HN1.out
            have h2 := HN2.out
            by_cases h : k = 9
            · left; simp; omega
            · right
              by_cases h0 : 0 < k
              · left; simp; omega
              · right; simp; omega
          by_cases hsm : c < 128
          · have hsm1 : (c : Int) < 128 := by omega
            have HF : Hd (sU (0, l) = ((0, bs.drop (j + 1)), acc + c % 128 * 128 ^ k)) := hid (by simp only [sU, if_true]; rw [hrd.out, HC.out.2, ru_last HN1.out HN2.out hsm])
            rcases tA with ⟨t1, t2, t3, t4⟩ | ⟨t1, t3, t4⟩ | ⟨t1, t3⟩
            all_goals
              go_wp2
              go_quiet (fail)
              go_wp2
              go_quiet (fail)
              go_wp2
              rw [Exit.noGoto_ret]
              go_ret
              exact ru_end HG.out (bs := bs) (j := j + 1) (e := 0) (rc_set1 (rc_drewN hrc.out _) (j + 1) (by omega)) ((hkeep.out.drewN _).setCell (.inl rfl) _) H6.out H7.out H8.out (by rw [HBL.out]; exact hlt) (by rw [HBL.out]; exact H10.out) H11.out (by rw [HF.out]) (fun _ => by rw [HF.out]) (by rw [HF.out])
          · have hsm1 : (128 : Int) ≤ c := by omega
            have HF : Hd (rdU 0 0 l = rdU (k + 1) (acc + c % 128 * 128 ^ k) (bs.drop (j + 1))) := hid (by rw [hrd.out, HC.out.2, ru_next HN1.out HN2.out hsm])
            have h9 : k ≠ 9 := by have := HN1.out; omega
            rcases tA with ⟨t1, t2, t3, t4⟩ | ⟨t1, t3, t4⟩ | ⟨t1, t3⟩
            · exact absurd (by simpa using t1) (by omega)
            all_goals
              clear h9
              go_wp2
              go_quiet (fail)
              go_wp2
              go_quiet (fail)
              go_wp2
              go_roundw
              case rel =>
                exact ⟨k + 1, acc + c % 128 * 128 ^ k, j + 1, by rw [HG.out], by go_num, by have := HN1.out; simp at t1; omega, by omega, hid (rc_set1 (rc_drewN hrc.out _) (j + 1) (by omega)), hid (acc_next hacc.out), HF, hid ((hkeep.out.drewN _).setCell (.inl rfl) _)⟩
              case measure => simp [intOf]; omega
      · have hjn : ((j : Int) == (n : Int)) = true := by simp; omega
        have HF : Hd (sU (0, l) = ((6, []), 0)) := hid (by simp only [sU, if_true]; rw [hrd.out, List.drop_eq_nil_of_le (by rw [HBL.out]; omega)]; rfl)
        go_wp2
        go_quiet (fail)
        go_wp2
        rw [Exit.noGoto_ret]
        go_ret
        exact ru_end rfl (bs := bs) (j := j) (x := 0) (e := 6) (rc_drewN (rc_set2 hrc.out 6) _) ((hkeep.out.setCell (.inl rfl) _).drewN _) H6.out H7.out H8.out (by rw [HBL.out]; exact hj) (by rw [HBL.out]; exact H10.out) H11.out (by rw [HF.out]) (by simp) (by rw [HF.out])
  · have HE := hid he; clear h12
    have t1 : (ev != 0) = true := by simp; exact he
    clear he h6 h7 h8 h9 h10 h11
    go_enter Tryd.func72, Tryd.ntmps72
    go_wp2
    go_step3
    go_wp2
    rw [Exit.noGoto_ret]
    go_ret
    have h := HR.out
    unfold RUPost
    rw [sU_err (s := (ev, l)) HE.out]
    exact ⟨rfl, h, Keeps.refl _ _⟩
end Go.Proofs.YtgeicbjlichdgaaDoor.Wi
