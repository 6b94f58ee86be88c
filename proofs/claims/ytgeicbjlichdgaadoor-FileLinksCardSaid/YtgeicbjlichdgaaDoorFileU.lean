/- File: Flip. -/
import Derived.Test.YtgeicbjlichdgaaDoorFileR
import Derived.Test.YtgeicbjlichdgaaDoorCrcT
import Derived.StillTailTactics
namespace Go.Proofs.YtgeicbjlichdgaaDoor
open Go.RowKit
attribute [local go_sem ↓] Go.wp_at_zero Go.wp_at_succ
def FlipR (K : Nat → Prop) (w : World) (l : List Nat) (e : Ending) (w' : World) : Prop := ∃ (y : List Nat) (q p : Nat) (a : Option Addr) (c : Nat), e = .returned (.tuple #[.slice a y.length c, .bool (!decide (q = 0))]) ∧ y.length = l.length ∧ (∀ c ∈ y, c < 256) ∧ q < 4294967296 ∧ p ≤ 8 * l.length ∧
  Cr.num y = Cr.num l ^^^ q * 2 ^ p ∧ Own K w' 5 1 (.slice a y.length c) y.length (u8s y) ∧ Keeps (fun _ => False) w w'
def FlipS (w : World) (l : List Nat) (s p : Nat) (g c n k : Nat) (wr : World) : Prop := ∃ y : List Nat, y.length = n ∧ (∀ c ∈ y, c < 256) ∧ Cr.num y = Cr.num l ^^^ (p % 2 ^ k) * 2 ^ s ∧ Own (fun k => w.heap.size ≤ k) wr 5 1 (.slice (some ⟨g, 0, none⟩) n c) n (u8s y) ∧ Keeps (fun _ => False) w wr
theorem own_empty (w : World) : Own (fun k => w.heap.size ≤ k) (w.alloc (.cells #[] 5)) 5 1 (.slice (some ⟨w.heap.size, 0, none⟩) 0 0) 0 [] :=
  ⟨World.ownsRow_lit w #[] 0 (Nat.zero_le _) (Nat.zero_le _) rfl, fun k hk => by injection hk with hk; simp at hk; omega⟩
theorem keeps_app {w w1 : World} {o : Obj} (hg : Keeps (fun k => w.heap.size ≤ k) (w.alloc o) w1) : Keeps (fun _ => False) w w1 := (keeps_alloc _ w _).after hg
theorem u32_tdiv (p k : Nat) (hp : p < 4294967296) : ((p / 2 ^ k : Nat) : Int) / 2 % 4294967296 = ((p / 2 ^ (k + 1) : Nat) : Int) := by
  rw [Nat.pow_succ, ← Nat.div_div_eq_div_mul]
  have : p / 2 ^ k ≤ p := Nat.div_le_self _ _
  generalize p / 2 ^ k = q at *
  omega
theorem own_bit {w : World} {S : Nat → Prop} {g c n : Nat} {y : List Nat} (m : Nat) (hm : m / 8 < n) (hl : y.length = n) (h : Own S w 5 1 (.slice (some ⟨g, 0, none⟩) n c) n (u8s y)) :
    w.cell? ⟨g, m / 8, none⟩ = some (.int .u8 (y.getD (m / 8) 0 : Nat)) ∧ w.frozen? ⟨g, m / 8, none⟩ = false ∧ Own S (w.setCell ⟨g, m / 8, none⟩ (.int .u8 (y.getD (m / 8) 0 ^^^ 2 ^ (m % 8) : Nat))) 5 1 (.slice (some ⟨g, 0, none⟩) n c) n (u8s (Cr.flipped y m)) ∧ S g := by
  refine ⟨?_, h.1.frozenAt _, ?_, h.2 g rfl⟩
  · rw [h.1.cellAt (m / 8) (by omega)]
    have := u8s_getD y (m / 8) (by omega)
    rw [← this, List.getD, List.getElem?_eq_getElem (by simp; omega)]; rfl
  · have e : u8s (Cr.flipped y m) = (u8s y).set (m / 8) (.int .u8 (y.getD (m / 8) 0 ^^^ 2 ^ (m % 8) : Nat)) := by simp [Cr.flipped, u8s, List.map_set]
    rw [e]
    exact own_set h _ _
set_option maxRecDepth 100000 in set_option maxHeartbeats 1000000 in
theorem Flip_any (K : Nat → Prop) (v : Value) (l : List Nat) (at_ : Int) (p : Nat) (w : World) (hv : Sl K w v (u8s l)) (hl : ∀ c ∈ l, c < 256) (hm : l.length ≤ 1000000) (ha0 : -9223372036854775808 ≤ at_) (ha1 : at_ ≤ 9223372036854775807) (hp : p < 4294967296) :
    Calls Tryd.prog 28 #[v, .int .i64 at_, .int .u32 (p : Int)] w fun e w' => FlipR (fun b => w.heap.size ≤ b) w l e w' := by
  obtain ⟨i0, hi, hz0, hz1, hz2⟩ := info_parts Cr.infoU8
  have HL := hid hl; have HV : Hd (Sl (fun b => b < w.heap.size) w v (u8s l)) := hid (hv.mono (fun b h _ => h)); have HP := hid hp
  obtain ⟨av, cap, rfl, q1, q2, q3⟩ := hv.bytes
  clear hl hv q3 hp
  unfold maxLen at q2
  obtain ⟨n, hn⟩ : ∃ n, l.length = n := ⟨_, rfl⟩
  have HNL := hid hn
  rw [hn] at HV q1 hm ⊢
  clear hn
  have HO := hid (own_empty w)
  have HS : Hd (Sl (fun b => b < w.heap.size) (w.alloc (.cells #[] 5)) (.slice av n cap) (u8s l)) := hid (HV.out.keep (keeps_alloc (fun _ => False) w (.cells #[] 5)) (fun _ _ _ h => h))
  go_enter Tryd.func28, Tryd.ntmps28
  go_wp2_with (at_builtin; refine wpList_append_row rfl _ _ 22 rfl 5 i0 (.int .u8 0) 1 1 Tryd.underlying22 hi hz0 hz1 hz2 rfl (by decide) _ (fun b => b < w.heap.size) _ _ _ _ rfl HO.out n _ rfl (sl_row HS.out (by simp [HNL.out])) (u8s_one _) ?h1 ?h2 ?_)
  case h1 => simp [maxLen]; omega
  case h2 => omega
  intro a3 c3 w1 hown hgrow; try intro _
  try simp only [Nat.zero_add, List.nil_append] at hown
  try simp only [Nat.zero_add]
  have K1 : Hd (Keeps (fun _ => False) w w1) := hid (keeps_app hgrow)
  have OW := hid (hown.mono (K' := fun k => w.heap.size ≤ k) (fun b _ hh => by rcases hh with hh | hh <;> (try simp at hh) <;> omega))
  clear hown hgrow HS HO
  by_cases h0 : n = 0
  · subst h0
    have hl0 : l = [] := List.eq_nil_of_length_eq_zero HNL.out
    subst hl0
    go_wp2
    go_ret2
    exact ⟨[], 0, 0, a3, c3, rfl, rfl, by simp, by omega, by simp, by simp, OW.out, K1.out⟩
  · have h0i : ((n : Int) == 0) = false := by simp; omega
    obtain ⟨g, rfl⟩ : ∃ g, a3 = some ⟨g, 0, none⟩ := by
      obtain ⟨g, h, _⟩ := own_head OW.out (by omega)
      exact ⟨g, h⟩
    have hg : w.heap.size ≤ g := OW.out.2 g rfl
    have hb := around_b at_ (show (1 : Int) ≤ 8 * n by omega)
    go_wp2_with fail
    refine (Around_any at_ (8 * (n : Int)) _ ha0 ha1 (by omega) (by omega)).mono ?_
    rintro e wx ⟨rfl, rfl⟩
    obtain ⟨s, hs⟩ : ∃ s : Nat, around at_ (8 * (n : Int)) = s := ⟨(around at_ (8 * n)).toNat, by omega⟩
    rw [hs] at hb ⊢
    have hs8 : s < 8 * n := by omega
    clear hb hs
    go_wp2_with fail
    go_loopw [2, 9, 11] (fun b9 c9 iv wr => ∃ k : Nat, b9 = .int .u32 ((p / 2 ^ k : Nat) : Int) ∧ c9 = .bool (!decide (p % 2 ^ k = 0)) ∧ iv = .int .i64 k ∧ k ≤ 32 ∧ s + k ≤ 8 * n ∧ Hd (FlipS w l s p g c3 n k wr)) (fun _ _ iv _ => 32 - (intOf iv).toNat)
    case atStart => exact ⟨0, by simp, by simp [Nat.mod_one], rfl, by omega, by omega, hid ⟨l, HNL.out, HL.out, by simp [Nat.mod_one], OW.out, K1.out⟩⟩
    case round =>
      clear K1 OW
      obtain ⟨k, rfl, rfl, rfl, hk, hik, PS⟩ := hrel
      by_cases hgo : k < 32 ∧ s + k < 8 * n
      · obtain ⟨hk2, hik2⟩ := hgo
        obtain ⟨m, hm'⟩ : ∃ m : Nat, m = s + k := ⟨_, rfl⟩
        have EM := hid (show (s : Int) + (k : Int) = (m : Int) by omega)
        have HM' := hid hm'
        have hm8 : m / 8 < n := by omega
        clear hm'
        have HNXT := hid (u32_tdiv p k HP.out)
        by_cases hb : p / 2 ^ k % 2 = 1
        · have HB := hid hb
          have hb1 : (((p / 2 ^ k : Nat) : Int).tmod 2 == 1) = true := by
            have : ((p / 2 ^ k : Nat) : Int).tmod 2 = ((p / 2 ^ k % 2 : Nat) : Int) := rfl
            rw [this, hb]; rfl
          have hb2 : (((p / 2 ^ k : Nat) : Int) % 2 == 1) = true := by
            have : ((p / 2 ^ k : Nat) : Int) % 2 = ((p / 2 ^ k % 2 : Nat) : Int) := rfl
            rw [this, hb]; rfl
          clear hb
          generalize hpk : p / 2 ^ k = pk at *
          have HPK := hid hpk
          clear hpk
          obtain ⟨y, y1, y2, y3, y4, y5⟩ := PS.out
          obtain ⟨b1, b2, b3, b4⟩ := own_bit m hm8 y1 y4
          have YL := hid y1; have YB := hid y2; have YN := hid y3; have YK := hid y5
          have HST := hid b3
          have hgb : w.heap.size ≤ g := b4
          have HG := hid (Cr.getD_lt y2 (m / 8)); have HPW := hid (Cr.pow8_lt m)
          clear y1 y2 y3 y4 y5 b3 b4 PS
          generalize y.getD (m / 8) 0 = c at *
          have hx : bits BinOp.xor IntKind.u8 (c : Int) (2 ^ (m % 8) % 256) = ((c ^^^ 2 ^ (m % 8) : Nat) : Int) := by
            have h1 := u8_xor_nat c (2 ^ (m % 8)) HG.out HPW.out
            have h2 : ((2 : Int) ^ (m % 8) % 256) = ((2 ^ (m % 8) : Nat) : Int) := by
              have hp : 2 ^ (m % 8) < 256 := HPW.out
              rw [show ((2 : Int) ^ (m % 8)) = ((2 ^ (m % 8) : Nat) : Int) by simp]
              generalize 2 ^ (m % 8) = m at hp ⊢
              omega
            rw [h2]; exact h1
          have HX := hid hx; clear hx
          go_upto_region 11 with fail
          try simp only [EM.out]
          have w1' : IntKind.i64.wrap ((m : Int) / 8) = ((m / 8 : Nat) : Int) := by rw [IntWalk.i64_in _ (by omega)]; rfl
          have w2' : IntKind.i64.wrap ((m : Int) % 8) = ((m % 8 : Nat) : Int) := by rw [IntWalk.i64_in _ (by omega)]; rfl
          have w3' : (m : Int) / 8 < (n : Int) := by omega
          have w4' : (0 : Int) ≤ (m : Int) / 8 := by omega
          have w5' : ((m : Int) / 8).toNat = m / 8 := by omega
          have b1' : wr.drew.cell? ⟨g, m / 8, none⟩ = some (.int .u8 (c : Nat)) := b1
          have w9' : (m : Int).tmod 8 = (m : Int) % 8 := Int.tmod_eq_emod_of_nonneg (by omega)
          have w6' : (0 : Int) ≤ (m : Int) % 8 := by omega
          have w7' : ((m : Int) % 8).toNat = m % 8 := by omega
          have w8' : ¬ ((m : Int) % 8 < 0) := by omega
          go_still_tail 13, (by kernel_rfl)
          change wpList _ _ _ _ _ wr.drew
          have b1' : wr.drew.cell? ⟨g, m / 8, none⟩ = some (.int .u8 (c : Nat)) := b1
          have b2' : wr.drew.frozen? ⟨g, m / 8, none⟩ = false := b2
          go_wp2
          try rw [HX.out]
          go_roundw
          case rel =>
            refine ⟨k + 1, by rw [HNXT.out], by rw [decide_eq_false (Cr.bit_pos p k (by rw [HPK.out]; exact HB.out))]; rfl, by go_num, by omega, by omega, hid ⟨Cr.flipped y m, by rw [Cr.flipped_len]; exact YL.out, Cr.flipped_lt YB.out _, ?_, HST.out, YK.out.drew.setCell (.inr hgb) _⟩⟩
            rw [Cr.num_flipped _ _ (by rw [YL.out]; omega), YN.out, Nat.xor_assoc, HM'.out, Cr.bit_set p k s (by rw [HPK.out]; exact HB.out)]
          case measure => simp [intOf]; omega
        · have HB := hid hb
          have hb1 : (((p / 2 ^ k : Nat) : Int).tmod 2 == 1) = false := by
            have : ((p / 2 ^ k : Nat) : Int).tmod 2 = ((p / 2 ^ k % 2 : Nat) : Int) := rfl
            rw [this, show p / 2 ^ k % 2 = 0 by omega]; rfl
          have hb2 : (((p / 2 ^ k : Nat) : Int) % 2 == 1) = false := by
            have : ((p / 2 ^ k : Nat) : Int) % 2 = ((p / 2 ^ k % 2 : Nat) : Int) := rfl
            rw [this, show p / 2 ^ k % 2 = 0 by omega]; rfl
          clear hb
          generalize hpk : p / 2 ^ k = pk at *
          have HPK := hid hpk
          clear hpk
          go_wp2
          go_roundw
          case rel =>
            refine ⟨k + 1, by rw [HNXT.out], by rw [Cr.bit_clear p k (by rw [HPK.out]; exact HB.out)], by go_num, by omega, by omega, hid (by rw [FlipS, Cr.bit_clear p k (by rw [HPK.out]; exact HB.out)]; exact PS.out)⟩
          case measure => simp [intOf]; omega
      · have hgo2 : 32 ≤ k ∨ (k < 32 ∧ 8 * n ≤ s + k) := by omega
        have hfin : Hd (FlipR (fun b => w.heap.size ≤ b) w l (.returned (.tuple #[.slice (some ⟨g, 0, none⟩) n c3, .bool (!decide (p % 2 ^ k = 0))])) wr) := hid (by
          obtain ⟨y, y1, y2, y3, y4, y5⟩ := PS.out
          refine ⟨y, p % 2 ^ k, s, some ⟨g, 0, none⟩, c3, by rw [y1], by rw [y1, HNL.out], y2, Nat.lt_of_le_of_lt (Nat.mod_le _ _) HP.out, by rw [HNL.out]; omega, y3, by rw [y1]; exact y4, y5⟩)
        clear hgo
        rcases hgo2 with hg2 | ⟨hg2, hg3⟩
        all_goals
          go_wp2
          go_ret2
          exact hfin.out
end Go.Proofs.YtgeicbjlichdgaaDoor
