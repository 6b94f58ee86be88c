/- The walks of package wire's Reader: byte slices and lists. -/
import Derived.Test.YtgeicbjlichdgaaDoorWireS
import Derived.StillTailTactics
namespace Go.Proofs.YtgeicbjlichdgaaDoor.Wi
open Go.RowKit

theorem RSize_ok (K : Nat → Prop) (p : Nat) (most : Int) (s : St) (w : World) (h : Rd K w p s) (hmo : most ≤ 9223372036854775807) (h0 : (sSize most s).1.1 = 0) :
    Calls Tryd.prog 68 #[.pointer (some ⟨p, 0, none⟩), .int .i64 most] w fun e w' => e = .returned (.tuple #[.int .i64 ((sSize most s).2 : Nat), .bool true]) ∧ Rd K w' p (0, (sSize most s).1.2) ∧ Keeps (fun k => k = p) w w' :=
  (RSize_any K p most s w h hmo).mono fun e w' ⟨n, h1, h2, h3, h4⟩ => by
    have : (sSize most s).1 = (0, (sSize most s).1.2) := by rw [← h0]
    rw [h1, h2 h0, h0]
    exact ⟨rfl, by rw [← this]; exact h3, h4⟩
theorem RSize_no (K : Nat → Prop) (p : Nat) (most : Int) (s : St) (w : World) (h : Rd K w p s) (hmo : most ≤ 9223372036854775807) (h0 : (sSize most s).1.1 ≠ 0) :
    Calls Tryd.prog 68 #[.pointer (some ⟨p, 0, none⟩), .int .i64 most] w fun e w' => ∃ n : Int, e = .returned (.tuple #[.int .i64 n, .bool false]) ∧ Rd K w' p (sSize most s).1 ∧ Keeps (fun k => k = p) w w' :=
  (RSize_any K p most s w h hmo).mono fun e w' ⟨n, h1, h2, h3, h4⟩ => ⟨n, by rw [h1, decide_eq_false h0], h3, h4⟩

def RBPost (K : Nat → Prop) (w : World) (p : Nat) (most : Int) (s : St) (r : Ending) (w' : World) : Prop :=
  ∃ a n c, r = .returned (.slice a n c) ∧ n = (sB most s).2.length ∧ Own (fun k => w.heap.size ≤ k) w' 5 1 (.slice a n c) n (u8s (sB most s).2) ∧ Rd K w' p (sB most s).1 ∧ Keeps (fun k => k = p) w w'
theorem rb_nil {K : Nat → Prop} {w w' : World} {p : Nat} {most : Int} {s t : St} (hs : sB most s = (t, [])) (hr : Rd K w' p t) (hk : Keeps (fun k => k = p) w w') : RBPost K w p most s (.returned (.slice none 0 0)) w' :=
  ⟨none, 0, 0, rfl, by rw [hs]; rfl, by rw [hs]; exact Own.nil _ _ _ _, by rw [hs]; exact hr, hk⟩

set_option maxRecDepth 100000 in set_option maxHeartbeats 400000 in
theorem RBytes_any (K : Nat → Prop) (p : Nat) (most : Int) (s : St) (w : World) (h : Rd K w p s) (hmo : most ≤ 9223372036854775807) :
    Calls Tryd.prog 58 #[.pointer (some ⟨p, 0, none⟩), .int .i64 most] w fun e w' => RBPost K w p most s e w' := by
  obtain ⟨i0, hi, hz0, hz1, hz2⟩ := info_parts infoU8
  have HR := hid h; have HMO := hid hmo; clear h hmo
  by_cases h0 : (sSize most s).1.1 = 0
  · have HS := hid (RSize_ok K p most s w HR.out HMO.out h0)
    have HB : Hd (sB most s = if (sSize most s).1.2.length < (sSize most s).2 then ((6, (sSize most s).1.2), []) else ((0, (sSize most s).1.2.drop (sSize most s).2), (sSize most s).1.2.take (sSize most s).2)) := hid (by rw [sB, if_pos h0])
    have HN : Hd (((sSize most s).2 : Int) ≤ 9223372036854775807) := hid (by have := HMO.out; rcases sSize_le most s with h | h <;> omega)
    clear h0
    generalize (sSize most s).2 = n at *
    generalize (sSize most s).1.2 = l at *
    go_enter Tryd.func58, Tryd.ntmps58
    go_wp2_with fail
    refine HS.out.mono ?_
    rintro e w1 ⟨rfl, h1⟩
    obtain ⟨⟨bv, bs, at_, g1, g2, g3, g4, g5, g6, g7, g8, g9, g10, g11, g12⟩, hk⟩ := h1
    replace hk := hid hk
    have G := hid (And.intro g6 (And.intro g7 (And.intro g8 (And.intro g9 (And.intro g10 g11))))); have G12 := hid (g12 rfl)
    obtain ⟨a, cap, rfl, hc1, hc2, hv⟩ := g6.bytes
    have HV := hid hv
    clear g6 g7 g8 g11 g12 hv
    simp only at g3
    have hll : Hd (l.length = bs.length - at_) := hid (by rw [show l = bs.drop at_ from G12.out]; simp)
    generalize hbl : bs.length = m at *
    have HBL := hid hbl; clear hbl
    have hml : m ≤ 140737488351232 := g10
    clear g10
    by_cases hsh : l.length < n
    · rw [if_pos hsh] at HB
      have hq : ((m : Int) - at_) < n := by have := hll.out; omega
      have hmm : (0 : Int) ≤ (m : Int) - at_ := by omega
      clear hsh
      go_wp2
      go_quiet (fail)
      go_wp2
      go_ret
      exact rb_nil HB.out (rd_of (e := 6) (rc_drewN (rc_set2 ⟨g1, g2, g3, g4, g5⟩ 6) _) ((keeps_set (fun k => k = p) w1 _ _ rfl).drewN _) (by have g := G.out; have hb := HBL.out; subst hb; exact g) (by simp)) (hk.out.trans ((keeps_set (fun k => k = p) w1 _ _ rfl).drewN _))
    · rw [if_neg hsh] at HB
      have hq : (n : Int) ≤ (m : Int) - at_ := by have := hll.out; omega
      have hmm : (0 : Int) ≤ (m : Int) - at_ := by omega
      have hmn : at_ + n ≤ m := by omega
      clear hsh
      go_wp2
      go_quiet (fail)
      go_wp2
      generalize hW : World.setCell (w1.drewN _) _ _ = W
      have hrc : RC W p (.slice a m cap) (at_ + n) 0 := by rw [← hW]; exact rc_set1 (rc_drewN ⟨g1, g2, g3, g4, g5⟩ _) _ (by omega)
      have hkw : Keeps (fun k => k = p) w1 W := by rw [← hW]; exact ((Keeps.refl (fun k => k = p) _).drewN _).setCell (.inl rfl) _
      have HRC := hid hrc; have HKW := hid hkw
      clear hkw hW g1 g2 g3 g4 g5
      obtain ⟨g1, g2, g3, g4, g5⟩ := hrc
      have e1 : IntKind.i64.wrap ((at_ : Int) + n - n) = at_ := by rw [show (at_ : Int) + n - n = at_ by omega, IntKind.wrap_i64]; omega
      have e2 : IntKind.i64.wrap (at_ : Int) = at_ := by rw [IntKind.wrap_i64]; omega
      have hrow : Row K W 1 (.slice a m cap) m (u8s bs) := by
        have g := G.out
        have h := g.1.keep HKW.out (fun b _ hb => by rintro rfl; exact g.2.1 hb)
        exact sl_row h (by simp [HBL.out])
      obtain ⟨a2, c2, hcut, hrow2⟩ := run_cut (P := Tryd.prog) (t := 22) Tryd.underlying22 hi hz1 hrow (lo := (at_ : Int)) (hh := (at_ : Int) + n) at_ (at_ + n) rfl (by omega) (by omega) hmn
      rw [show at_ + n - at_ = n by omega] at hcut hrow2
      have hS2 : Sl K W.drew (.slice a2 n c2) (u8s (l.take n)) := by
        have hl := G12.out
        have : ((u8s bs).drop (at_ * 1)).take (n * 1) = u8s (l.take n) := by rw [show l = bs.drop at_ from hl]; simp [u8s, List.map_take, List.map_drop]
        rw [this] at hrow2
        have h0 : (u8s (l.take n)).length = n := by have := hll.out; simp; omega
        unfold Sl; rw [h0]; exact hrow2
      have HS2 := hid hS2
      have HTL : Hd ((l.take n).length = n) := hid (by have := hll.out; simp; omega)
      clear hrow hrow2 hS2
      go_still_tail 15, (by kernel_rfl)
      change wpList _ _ _ _ _ W.drew
      go_wp2_with fail
      refine (CloneB_any K _ (l.take n) _ HS2.out (by have := HTL.out; omega)).mono ?_
      rintro e w2 ⟨a1, n1, c1, rfl, h6⟩; replace h6 := hid h6
      go_wp2
      go_ret
      have hkk : Keeps (fun k => k = p) w w2 := ((hk.out.trans HKW.out).drew).trans' h6.out.2.2 (fun _ _ h => h.elim)
      have hsz : w.heap.size ≤ W.heap.size := (hk.out.trans HKW.out).size
      refine ⟨a1, n1, c1, rfl, ?_, ?_, ?_, hkk⟩
      all_goals rw [HB.out]
      · rw [h6.out.1]; simp
      · exact h6.out.2.1.mono (fun b _ hb => Nat.le_trans hsz hb)
      · have hbl := HBL.out
        have hrd : Rd K W p (0, l.drop n) := rd_of (e := 0) (w1 := w1) (bs := bs) HRC.out HKW.out (by subst hbl; exact ⟨G.out.1, G.out.2.1, G.out.2.2.1, hmn, G.out.2.2.2.2⟩) (fun _ => by rw [show l = bs.drop at_ from G12.out, List.drop_drop])
        exact hrd.keep ((Keeps.refl (fun _ => False) W).drew.trans h6.out.2.2) (fun h => h) (fun _ _ _ h => h)
  · have HN : Hd (sB most s = ((sSize most s).1, [])) := hid (by rw [sB, if_neg h0])
    have HS := hid (RSize_no K p most s w HR.out HMO.out h0)
    have HNE := hid h0
    generalize (sSize most s).1 = t at *
    obtain ⟨e0, l0⟩ := t
    have t1 : (e0 != 0) = true := by simpa using h0
    clear h0
    go_enter Tryd.func58, Tryd.ntmps58
    go_wp2_with fail
    refine HS.out.mono ?_
    rintro e w1 ⟨n, rfl, h1, h2⟩
    have H1 := hid h1; have H2 := hid h2; clear h2
    obtain ⟨bv, bs, at_, g1, g2, g3, g4, g5, g6⟩ := h1
    clear g6
    simp only at g3
    go_wp2
    go_quiet (fail)
    go_wp2
    go_ret
    exact rb_nil HN.out (H1.out.keep ((Keeps.refl (fun _ => False) w1).drewN _) (fun h => h) (fun _ _ _ h => h)) (H2.out.drewN _)

theorem Rd.mono {K K' : Nat → Prop} {w : World} {p : Nat} {s : St} (h : Rd K w p s) (hK : ∀ b, b < w.heap.size → K b → K' b) (hp : ¬ K' p) : Rd K' w p s := by
  obtain ⟨bv, bs, at_, h1, h2, h3, h4, h5, h6, h7, h8, h9⟩ := h
  exact ⟨bv, bs, at_, h1, h2, h3, h4, h5, h6.mono hK, hp, h8, h9⟩
theorem Rd.len {K : Nat → Prop} {w : World} {p : Nat} {s : St} (h : Rd K w p s) : s.1 = 0 → s.2.length ≤ 140737488351232 := by
  obtain ⟨bv, bs, at_, h1, h2, h3, h4, h5, h6, h7, h8, h9, h10, h11, h12⟩ := h
  intro h0; rw [h12 h0]; simp; omega
theorem beq_dec (a : Int) : (a == 0) = decide (a = 0) := by by_cases h : a = 0 <;> simp [h]
theorem infoIntW : (Tryd.prog.info? 3).map (fun i => (i.zero, i.size, i.bytes)) = some (some (.int .i64 0), 1, 8) := by kernel_rfl
def RLPost (K : Nat → Prop) (w : World) (p : Nat) (most : Int) (s : St) (r : Ending) (w' : World) : Prop :=
  ∃ a n c, r = .returned (.slice a n c) ∧ n = (sL most s).2.length ∧ Own (fun k => w.heap.size ≤ k) w' 3 1 (.slice a n c) n (i64s (sL most s).2) ∧ Rd K w' p (sL most s).1 ∧ Keeps (fun k => k = p) w w'
theorem rl_nil {K : Nat → Prop} {w w' : World} {p : Nat} {most : Int} {s t : St} (hs : sL most s = (t, [])) (hr : Rd K w' p t) (hk : Keeps (fun k => k = p) w w') : RLPost K w p most s (.returned (.slice none 0 0)) w' :=
  ⟨none, 0, 0, rfl, by rw [hs]; rfl, by rw [hs]; exact Own.nil _ _ _ _, by rw [hs]; exact hr, hk⟩

set_option maxRecDepth 100000 in set_option maxHeartbeats 1000000 in
theorem RInts_any (K : Nat → Prop) (p : Nat) (most : Int) (s : St) (w : World) (h : Rd K w p s) (hmo : most ≤ 9223372036854775807) (hlen : s.2.length ≤ 1000000000000) :
    Calls Tryd.prog 57 #[.pointer (some ⟨p, 0, none⟩), .int .i64 most] w fun e w' => RLPost K w p most s e w' := by
  obtain ⟨i0, hi, hz0, hz1, hz2⟩ := info_parts infoIntW
  have HR := hid h; have HMO := hid hmo; clear h hmo
  have HPK : Hd (¬ K p ∧ p < w.heap.size) := hid (by obtain ⟨bv, bs, at_, h1, h2, h3, h4, h5, h6, h7, h8, h9⟩ := HR.out; exact ⟨h7, h8⟩)
  have HR' : Hd (Rd (fun b => K b ∧ b < w.heap.size) w p s) := hid (HR.out.mono (fun b hb h => ⟨h, hb⟩) (fun h => HPK.out.1 h.1))
  by_cases h0 : (sSize most s).1.1 = 0
  · have HS := hid (RSize_ok _ p most s w HR'.out HMO.out h0)
    have HB : Hd (sLs most s = sLoop (sSize most s).2 (0, (sSize most s).1.2) []) := hid (by rw [sLs, show (sSize most s).1 = (0, (sSize most s).1.2) by rw [← h0]])
    have HN : Hd (((sSize most s).2 : Int) ≤ 9223372036854775807) := hid (by have := HMO.out; rcases sSize_le most s with h | h <;> omega)
    have HL : Hd ((sSize most s).1.2.length ≤ 1000000000000) := hid (by have := sSize_rest most s; omega)
    clear h0 hlen
    generalize (sSize most s).2 = n at *
    generalize (sSize most s).1.2 = l at *
    have hn : (n : Int) ≤ 9223372036854775807 := HN.out
    go_enter Tryd.func57, Tryd.ntmps57
    go_wp2_with fail
    refine HS.out.mono ?_
    rintro e w1 ⟨rfl, h1⟩
    have H1 := hid h1; clear h1
    go_wp2
    go_loopw [6, 7, 8] (fun ok lv i wr => ∃ (k : Nat) (okb : Bool) (a : Option Addr) (c : Nat) (t : St) (acc : List Int), k ≤ n ∧ k ≤ 1000000000001 ∧ ok = .bool okb ∧ lv = .slice a k c ∧ i = .int .i64 k ∧
        Hd (okb = decide (t.1 = 0)) ∧ Hd (sLs most s = sLoop (n - k) t acc) ∧ Hd (acc.length = k) ∧ Hd (t.1 = 0 → acc.length + t.2.length ≤ 1000000000000) ∧
        Hd (Own (fun b => w.heap.size ≤ b) wr 3 1 (.slice a k c) k (i64s acc)) ∧ Hd (Rd (fun b => K b ∧ b < w.heap.size) wr p t) ∧ Hd (Keeps (fun k => k = p) w wr)) (fun _ _ i _ => n - (intOf i).toNat)
    case atStart => exact ⟨0, true, none, 0, (0, l), [], by omega, by omega, rfl, rfl, rfl, hid (by simp), by simpa using HB, hid rfl, hid (by have := HL.out; simp; omega), hid (Own.nil _ _ _ _), hid H1.out.1, hid H1.out.2⟩
    case round =>
      obtain ⟨k, okb, a, c, t, acc, hk, hk2, rfl, rfl, rfl, hok, hsl, hacc, htot, hown, hrd, hkeep⟩ := hrel
      by_cases ht : t.1 = 0
      · obtain rfl : okb = true := by rw [hok.out]; simp [ht]
        have HT := hid ht; clear ht
        by_cases hlt : k < n
        · have hlt1 : (k : Int) < n := by omega
          have hkb : k + 1 ≤ 1000000000001 := by have h1 := hacc.out; have h2 := htot.out HT.out; omega
          go_wp2_with fail
          refine (RInt_any _ p t _ hrd.out).mono ?_
          rintro e w3 ⟨rfl, h3, h4⟩
          have H3 := hid h3; have H4 := hid h4; clear h3 h4
          have HO3 : Hd (Own (fun b => w.heap.size ≤ b) w3 3 1 (.slice a k c) k (i64s acc)) := hid (hown.out.keep H4.out (fun b _ hb => by have := HPK.out.2; omega))
          have hsI : Hd (sLs most s = sLoop (n - (k + 1)) (sI t).1 (acc ++ [(sI t).2])) := hid (by rw [hsl.out, show n - k = (n - (k + 1)) + 1 by omega, sLoop_one HT.out])
          have htot' : Hd ((sI t).1.1 = 0 → (acc ++ [(sI t).2]).length + (sI t).1.2.length ≤ 1000000000000) := hid (fun h => by have h1 := sI_rest HT.out h; have h2 := htot.out HT.out; simp; omega)
          generalize (sI t).2 = x at *
          generalize (sI t).1 = t' at *
          go_wp2_with (at_builtin; refine wpList_append_row rfl _ _ 36 rfl 3 i0 (.int .i64 0) 1 8 Tryd.underlying36 hi hz0 hz1 hz2 rfl (by decide) _ (fun _ => True) _ _ _ _ rfl (HO3.out.alloc _) 1 _ rfl (src_one _ _ trivial) (by intro u hu; simp at hu; subst hu; rfl) ?h1 ?h2 ?_)
          case h1 => simp [maxLen]; omega
          case h2 => omega
          intro a1 cap1 w4 hown' hgrow; try intro _
          have H5 := hid hown'; clear hown'
          have HK5 : Hd (Keeps (fun b => w.heap.size ≤ b) w3 w4) := hid ((keeps_alloc _ w3 _).trans hgrow)
          clear hgrow
          have HR4 : Hd (Rd (fun b => K b ∧ b < w.heap.size) w4 p t') := hid (H3.out.keep HK5.out (by have := HPK.out.2; omega) (fun b _ hb => by omega))
          have hcells := HR4.out
          obtain ⟨bv, bs, at_, g1, g2, g3, g4, g5, g6⟩ := hcells
          clear g6 g1 g2 g4 g5
          go_wp2
          go_roundw
          case rel =>
            exact ⟨k + 1, _, a1, cap1, t', acc ++ [x], by omega, hkb, rfl, rfl, by go_num, hid (by rw [beq_dec]), hsI, hid (by simp [hacc.out]), htot',
              hid (by have := H5.out.mono (K' := fun b => w.heap.size ≤ b) (fun b _ hb => by have := hkeep.out.size; have := H4.out.size; rcases hb with hb | hb <;> omega); simpa [i64s] using this), HR4,
              hid ((hkeep.out.trans H4.out).trans' HK5.out (fun i hi hh => by omega))⟩
          case measure => simp [intOf]; omega
        · obtain rfl : k = n := by omega
          have HF : Hd (sL most s = (t, acc)) := hid (by
            have h1 := hsl.out
            rw [show k - k = 0 by omega, sLoop] at h1
            rw [sL, h1, if_pos HT.out])
          go_wp2
          go_ret
          refine ⟨a, k, c, rfl, ?_, ?_, ?_, hkeep.out⟩
          · rw [HF.out]; exact hacc.out.symm
          · rw [HF.out]; exact hown.out
          · rw [HF.out]; exact hrd.out.mono (fun b _ hb => hb.1) HPK.out.1
      · obtain rfl : okb = false := by rw [hok.out]; simp [ht]
        have HF : Hd (sL most s = (t, [])) := hid (by
            have h1 := hsl.out
            rw [sLoop_err ht] at h1
            rw [sL, h1, if_neg ht])
        clear ht
        go_wp2
        go_ret
        exact rl_nil HF.out (hrd.out.mono (fun b _ hb => hb.1) HPK.out.1) hkeep.out
  · have HN : Hd (sL most s = ((sSize most s).1, [])) := hid (by rw [sL, sLs, sLoop_err h0, if_neg h0])
    have HS := hid (RSize_no K p most s w HR.out HMO.out h0)
    have HNE := hid h0
    generalize (sSize most s).1 = t at *
    clear h0
    go_enter Tryd.func57, Tryd.ntmps57
    go_wp2_with fail
    refine HS.out.mono ?_
    rintro e w1 ⟨n, rfl, h1, h2⟩
    have H1 := hid h1; have H2 := hid h2; clear h1 h2
    go_wp2
    refine wp_loop_rounds 1 ?_; rw [rounds_succ]
    go_wp2
    go_ret
    exact rl_nil HN.out H1.out H2.out
end Go.Proofs.YtgeicbjlichdgaaDoor.Wi
