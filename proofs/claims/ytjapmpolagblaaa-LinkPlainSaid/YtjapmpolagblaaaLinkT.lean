/- Link: the generators Message, Fates. -/
import Derived.Test.YtjapmpolagblaaaLinkS
namespace Go.Proofs.Ytjapmpolagblaaa
open Go.RowKit
attribute [local go_sem ↓] Go.wp_at_zero Go.wp_at_succ
theorem Own.drew {K : Nat → Prop} {w : World} {e : TypeId} {size : Nat} {v : Value} {n : Nat} {xs : List Value} (h : Own K w e size v n xs) : Own K w.drew e size v n xs := h
theorem src_blk {V : World} {g : Nat} {cs : Array Value} {T : TypeId} (h : Blk V g cs T) (n size : Nat) (hl : cs.size = n * size) (hm : n ≤ maxLen) : Row (fun _ => True) V size (.slice (some ⟨g, 0, none⟩) n n) n cs.toList :=
  ⟨by simpa using hl, .inr ⟨_, n, rfl, Nat.le_refl _, hm, fun _ => ⟨g, 0, rfl, trivial, blk_lt h, fun j hj => by
    rw [Nat.zero_add, blk_cell h j]
    have : j < cs.size := by omega
    simp [List.getD, this]⟩⟩⟩
theorem own_blk0 {V : World} {g : Nat} {T : TypeId} (h : Blk V g #[] T) (size : Nat) : Own (fun k => k = g) V T size (.slice (some ⟨g, 0, none⟩) 0 0) 0 [] :=
  ⟨⟨by simp, .inr ⟨g, 0, #[], rfl, Nat.zero_le _, h, Nat.le_refl _, Nat.zero_le _, by simp, by simp⟩⟩, fun k hk => by injection hk with hk; simp at hk; omega⟩
/-- rows of s numbers -/
def ArrS (s : Nat) (K : Nat → Prop) (w : World) (v : Value) (n : Nat) : Prop := ∃ a cap, v = .slice a n cap ∧ n ≤ cap ∧ cap ≤ maxLen ∧
  ∀ k, k < n → ∃ b o, a = some ⟨b, o, none⟩ ∧ K b ∧ b < w.heap.size ∧ ∀ j, j < s → ∃ z : Int, w.cell? ⟨b, o + k * s + j, none⟩ = some (.int .i64 z) ∧ -9223372036854775808 ≤ z ∧ z ≤ 9223372036854775807
theorem ArrS.keep {s : Nat} {K S : Nat → Prop} {w w' : World} {v : Value} {n : Nat} (h : ArrS s K w v n) (hk : Keeps S w w') (hd : ∀ b, b < w.heap.size → K b → ¬ S b) : ArrS s K w' v n := by
  obtain ⟨a, cap, h1, h2, h3, h4⟩ := h
  refine ⟨a, cap, h1, h2, h3, fun k hkk => ?_⟩
  obtain ⟨b, o, g1, g2, g3, g4⟩ := h4 k hkk
  refine ⟨b, o, g1, g2, Nat.lt_of_lt_of_le g3 hk.size, fun j hj => ?_⟩
  obtain ⟨z, z1, z2⟩ := g4 j hj
  exact ⟨z, keep_cell hk (hd b g3 g2) z1, z2⟩
theorem ArrS.mono {s : Nat} {K K' : Nat → Prop} {w : World} {v : Value} {n : Nat} (h : ArrS s K w v n) (hd : ∀ b, b < w.heap.size → K b → K' b) : ArrS s K' w v n := by
  obtain ⟨a, cap, h1, h2, h3, h4⟩ := h
  refine ⟨a, cap, h1, h2, h3, fun k hkk => ?_⟩
  obtain ⟨b, o, g1, g2, g3, g4⟩ := h4 k hkk
  exact ⟨b, o, g1, hd b g3 g2, g3, g4⟩
def MsgPost (w : World) (r : Ending) (w' : World) : Prop := ∃ (fr tt : Int) (ad : Option Addr) (n cd : Nat) (data : List Nat), r = .returned (.agg #[.int .i64 fr, .int .i64 tt, .slice ad n cd]) ∧ n = data.length ∧ data.length ≤ 44 ∧ (∀ c ∈ data, c < 256) ∧ Sl (fun b => w.heap.size ≤ b) w' (.slice ad n cd) (u8s data) ∧ (0 ≤ fr ∧ fr ≤ 13) ∧ (0 ≤ tt ∧ tt ≤ 13) ∧ Keeps (fun _ => False) w w'
def MsgB (W : World) (bm : Nat) (wx : World) : Prop := ∃ fr tt : Int, (0 ≤ fr ∧ fr ≤ 13) ∧ (0 ≤ tt ∧ tt ≤ 13) ∧ Blk wx bm #[.int .i64 fr, .int .i64 tt, .slice none 0 0] 37 ∧ Keeps (fun b => b = bm) W wx
theorem u8_some (z : Int) : ∃ c : Nat, c < 256 ∧ IntKind.u8.wrap z = c := by
  have h : IntKind.u8.wrap z = z % 256 := by simp [IntKind.wrap, IntKind.bits, IntKind.signed]
  exact ⟨(z % 256).toNat, by omega, by rw [h]; omega⟩
set_option maxRecDepth 100000 in set_option maxHeartbeats 1000000 in
theorem Message_any (n : Int) (w : World) (h0 : -9223372036854775808 ≤ n) (h1 : n ≤ 9223372036854775807) :
    Calls Try.prog 9 #[.int .i64 n] w fun e w' => MsgPost w e w' := by
  obtain ⟨i0, hi, hz0, hz1, hz2⟩ := info_parts infoU8
  have H0 := hid h0; have H1 := hid h1; clear h0 h1
  go_enter Try.func9, Try.ntmps9
  go_upto_region 1 with fail
  generalize hW : World.alloc w _ = W1
  have KS : Hd (Keeps (fun _ => False) w W1) := hid (by rw [← hW]; exact (Keeps.alloc (Keeps.refl (fun _ => False) w) _))
  have BR : Hd (Blk W1 w.heap.size #[.int .i64 0, .int .i64 0, .slice none 0 0] 37) := hid (by rw [← hW]; exact (blk_new _ _ _))
  have HK : Hd (Keeps (fun _ => False) w W1) := hid KS.out
  have z_W1 : w.heap.size + 1 ≤ W1.heap.size := by rw [← hW]; simp
  clear hW KS
  go_wp2_with fail
  refine (Around_any n _ _ H0.out H1.out (by omega) (by omega)).mono ?_
  rintro e wx ⟨rfl, rfl⟩
  obtain ⟨b0, b1⟩ := around_b n (show (1 : Int) ≤ 1000000 by omega)
  generalize around n 1000000 = k at *
  have e1 := Int.emod_nonneg k (show (3 : Int) ≠ 0 by omega)
  have e2 := Int.emod_lt_of_pos k (show (0 : Int) < 3 by omega)
  have e3 : 0 ≤ k / 3 % 2 ∧ k / 3 % 2 < 2 := by omega
  go_upto_region 3 with fail
  generalize hW : World.alloc W1 _ = W2
  have KS : Hd (Keeps (fun _ => False) W1 W2) := hid (by rw [← hW]; exact (Keeps.alloc (Keeps.refl (fun _ => False) W1) _))
  have BR' : Hd (Blk W2 w.heap.size #[.int .i64 0, .int .i64 0, .slice none 0 0] 37) := hid (by rw [← hW]; exact (blk_alloc BR.out _))
  have BM : Hd (Blk W2 W1.heap.size #[.int .i64 (k % 3), .int .i64 (12 + k / 3 % 2), .slice none 0 0] 37) := hid (by rw [← hW]; exact (blk_new _ _ _))
  clear BR
  have BR := BR'
  clear BR'
  have HK' : Hd (Keeps (fun _ => False) w W2) := hid (HK.out.trans KS.out)
  clear HK
  have HK := HK'
  clear HK'
  have z_W2 : W1.heap.size + 1 ≤ W2.heap.size := by rw [← hW]; simp
  clear hW KS
  have e5 : 0 ≤ 12 + k / 3 % 2 ∧ 12 + k / 3 % 2 ≤ 13 := by omega
  have e6 : 0 ≤ k % 3 ∧ k % 3 ≤ 13 := by omega
  clear e1 e2 e3
  generalize 12 + k / 3 % 2 = o0 at *
  generalize k % 3 = f0 at *
  go_upto_if 18 with fail
  go_cut [] from 19 to 23 (fun wx => Hd (MsgB W2 W1.heap.size wx))
  case first =>
    have o_BM_0 : W2.cell? ⟨W1.heap.size, 0, none⟩ = some (.int .i64 f0) := blk_cell BM.out 0
    have o_BM_1 : W2.cell? ⟨W1.heap.size, 1, none⟩ = some (.int .i64 o0) := blk_cell BM.out 1
    have o_BM_2 : W2.cell? ⟨W1.heap.size, 2, none⟩ = some (.slice none 0 0) := blk_cell BM.out 2
    have f_BM_0 : W2.frozen? ⟨W1.heap.size, 0, none⟩ = false := blk_free BM.out 0
    have f_BM_1 : W2.frozen? ⟨W1.heap.size, 1, none⟩ = false := blk_free BM.out 1
    have f_BM_2 : W2.frozen? ⟨W1.heap.size, 2, none⟩ = false := blk_free BM.out 2
    by_cases h1 : k / 6 % 2 = 0
    · have d1 : (k / 6 % 2 == 0) = true := by simp; exact h1
      clear h1
      go_wp2_with fail
      go_meet
      have hB := (blk_set (blk_set (blk_set BM.out 0 (.int .i64 o0)) 1 (.int .i64 f0)) 2 (.slice none 0 0))
      simp only [List.setIfInBounds_toArray, List.set_cons_zero, List.set_cons_succ] at hB
      exact hid ⟨o0, f0, by omega, by omega, hB, (by repeat (first | (with_reducible exact Keeps.refl _ _) | (with_reducible apply keq)))⟩
    · have d1 : (k / 6 % 2 == 0) = false := by simp; exact h1
      clear h1
      go_wp2_with fail
      go_meet
      have hB := BM.out
      skip
      exact hid ⟨f0, o0, by omega, by omega, hB, (by repeat (first | (with_reducible exact Keeps.refl _ _) | (with_reducible apply keq)))⟩
  case rest =>
    obtain ⟨f1, o1, e7, e8, hbm, hkc⟩ := hcut.out
    have zb := blk_lt BM.out
    clear BM
    have BM := hid hbm; have KC := hid hkc; clear hbm hkc hcut
    generalize wc = wA at *
    have BRA : Hd (Blk wA w.heap.size #[.int .i64 0, .int .i64 0, .slice none 0 0] 37) := hid (blk_keep BR.out KC.out (by omega))
    have KA : Hd (Keeps (fun _ => False) w wA) := hid (HK.out.trans' KC.out (fun i hi h => by omega))
    have zA := KC.out.size
    clear BR KC HK e5 e6
    have e9 : 0 ≤ k / 48 % 3 ∧ k / 48 % 3 ≤ 13 := by omega
    go_upto_if 27 with fail
    go_cut [] from 28 to 31 (fun wx => Hd (MsgB wA W1.heap.size wx))
    case first =>
      have o_BM_0 : wA.cell? ⟨W1.heap.size, 0, none⟩ = some (.int .i64 f1) := blk_cell BM.out 0
      have o_BM_1 : wA.cell? ⟨W1.heap.size, 1, none⟩ = some (.int .i64 o1) := blk_cell BM.out 1
      have o_BM_2 : wA.cell? ⟨W1.heap.size, 2, none⟩ = some (.slice none 0 0) := blk_cell BM.out 2
      have f_BM_0 : wA.frozen? ⟨W1.heap.size, 0, none⟩ = false := blk_free BM.out 0
      have f_BM_1 : wA.frozen? ⟨W1.heap.size, 1, none⟩ = false := blk_free BM.out 1
      have f_BM_2 : wA.frozen? ⟨W1.heap.size, 2, none⟩ = false := blk_free BM.out 2
      by_cases h1 : k / 12 % 4 = 0
      · have d1 : (k / 12 % 4 == 0) = true := by simp; exact h1
        clear h1
        go_wp2_with fail
        go_meet
        have hB := (blk_set BM.out 1 (.int .i64 (k / 48 % 3)))
        simp only [List.setIfInBounds_toArray, List.set_cons_zero, List.set_cons_succ] at hB
        exact hid ⟨f1, (k / 48 % 3), by omega, by omega, hB, (by repeat (first | (with_reducible exact Keeps.refl _ _) | (with_reducible apply keq)))⟩
      · have d1 : (k / 12 % 4 == 0) = false := by simp; exact h1
        clear h1
        go_wp2_with fail
        go_meet
        have hB := BM.out
        skip
        exact hid ⟨f1, o1, by omega, by omega, hB, (by repeat (first | (with_reducible exact Keeps.refl _ _) | (with_reducible apply keq)))⟩
    case rest =>
      obtain ⟨fr, tt, hfr, htt, hbm, hkc⟩ := hcut.out
      have BM9 := hid hbm; have KC := hid hkc; clear hbm hkc hcut
      have zb := blk_lt BM.out
      generalize wc = w3 at *
      have BR3 : Hd (Blk w3 w.heap.size #[.int .i64 0, .int .i64 0, .slice none 0 0] 37) := hid (blk_keep BRA.out KC.out (by omega))
      have K3 : Hd (Keeps (fun _ => False) w w3) := hid (KA.out.trans' KC.out (fun i hi h => by omega))
      have z3 := KC.out.size
      clear BM BRA KC KA e9
      have hb0 : 0 ≤ k / 144 % 45 ∧ k / 144 % 45 < 45 := by omega
      obtain ⟨m, hm⟩ : ∃ m : Nat, k / 144 % 45 = m := ⟨(k / 144 % 45).toNat, by omega⟩
      rw [hm] at hb0
      generalize W1.heap.size = bm at *
      go_wp2_with fail
      go_loopw [5] (fun i wr => ∃ (j : Nat) (a : Option Addr) (c : Nat) (data : List Nat), i = .int .i64 j ∧ j ≤ m ∧ Hd (data.length = j) ∧ Hd (∀ c ∈ data, c < 256) ∧ Hd (Blk wr bm #[.int .i64 fr, .int .i64 tt, .slice a j c] 37) ∧ Hd (Own (fun b => (Value.slice a j c).ownBlock = some b) wr 5 1 (.slice a j c) j (u8s data)) ∧ Hd (∀ b, (Value.slice a j c).ownBlock = some b → w3.heap.size ≤ b) ∧ Hd (Keeps (fun b => b = bm) w3 wr)) (fun i _ => m - (intOf i).toNat)
      case atStart => exact ⟨0, none, 0, [], rfl, Nat.zero_le _, hid rfl, hid (by simp), BM9, hid (Own.nil _ _ _ _), hid (fun b h => by simp [Value.ownBlock] at h), hid (Keeps.refl _ _)⟩
      case round =>
        obtain ⟨j, a, c, data, rfl, hj, HLN, HD8, BMR, HO, HGE, KR⟩ := hrel
        have zr := KR.out.size
        have hmm : m ≤ 44 := by omega
        by_cases hjm : j < m
        · have k1 : (j : Int) < m := by omega
          have k2 : (0 : Int) ≤ j := by omega
          have k3 : (j : Int) * j ≤ 2025 := by have := Int.mul_le_mul (show (j : Int) ≤ 45 by omega) (show (j : Int) ≤ 45 by omega) (by omega) (by omega); omega
          have k4 : 0 ≤ (j : Int) * j := Int.mul_nonneg k2 k2
          have o2 : wr.cell? ⟨bm, 2, none⟩ = some (.slice a j c) := blk_cell BMR.out 2
          obtain ⟨cc, hc8, hcw⟩ := u8_some (k + (j : Int) * j)
          go_wp2_with (at_builtin; refine wpList_append_row rfl (.tmp 40) (.tmp 47) 35 rfl 5 i0 (.int .u8 0) 1 1 Try.underlying35 hi hz0 hz1 hz2 rfl (by decide) _ (fun _ => True) (.slice a j c) _ j _ rfl (HO.out.alloc _) 1 [.int .u8 cc] rfl (by exact lit_row _ _ _ 1 1 rfl (by decide)) (by intro u hu; simp at hu; subst hu; rfl) (by simp [maxLen]; omega) (by omega) ?_)
          intro a2 c2 w4 hown hk2; try intro _
          have HO2 := hid (own_none hown)
          have K2 : Hd (Keeps (fun b => (Value.slice a j c).ownBlock = some b) wr w4) := hid ((keeps_alloc _ wr _).trans hk2)
          have hown0 : ∀ b, (Value.slice a2 (j + 1) c2).ownBlock = some b → (Value.slice a j c).ownBlock = some b ∨ wr.heap.size ≤ b := fun b hb => by rcases hown.2 b hb with h | h <;> (try simp at h) <;> first | exact .inl h | exact .inr (by omega)
          have HGE2 : Hd (∀ b, (Value.slice a2 (j + 1) c2).ownBlock = some b → w3.heap.size ≤ b) := hid (fun b hb => by rcases hown0 b hb with h | h; exact HGE.out b h; omega)
          have BM4 : Hd (Blk w4 bm #[.int .i64 fr, .int .i64 tt, .slice a j c] 37) := hid (blk_keep BMR.out K2.out (fun h => by have := HGE.out bm h; omega))
          have KX : Hd (Keeps (fun b => b = bm) w3 (w4.setCell ⟨bm, 2, none⟩ (.slice a2 (j + 1) c2))) := hid (keq (KR.out.trans' K2.out (fun i hi h => by have := HGE.out i h; omega)) 2 _)
          have HLN2 : Hd ((data ++ [cc]).length = j + 1) := hid (by rw [List.length_append, HLN.out]; rfl)
          have HD9 : Hd (∀ c ∈ data ++ [cc], c < 256) := hid (fun c hc => by rcases List.mem_append.1 hc with h | h; exact HD8.out c h; simp at h; omega)
          have HO3 : Hd (Own (fun b => (Value.slice a2 (j + 1) c2).ownBlock = some b) (w4.setCell ⟨bm, 2, none⟩ (.slice a2 (j + 1) c2)) 5 1 (.slice a2 (j + 1) c2) (j + 1) (u8s (data ++ [cc]))) := hid (by rw [u8s_append]; exact HO2.out.keep (keeps_set (fun b => b = bm) _ _ _ rfl) (fun b _ h1 h2 => by have := HGE2.out b h1; omega))
          have BM5 : Hd (Blk (w4.setCell ⟨bm, 2, none⟩ (.slice a2 (j + 1) c2)) bm #[.int .i64 fr, .int .i64 tt, .slice a2 (j + 1) c2] 37) := hid (by have h := blk_set BM4.out 2 (.slice a2 (j + 1) c2); simp only [List.setIfInBounds_toArray, List.set_cons_zero, List.set_cons_succ] at h; exact h)
          have o3 : w4.cell? ⟨bm, 2, none⟩ = some (.slice a j c) := blk_cell BM4.out 2
          have o4 : w4.frozen? ⟨bm, 2, none⟩ = false := blk_free BM4.out 2
          clear hown hown0 hk2 o2 HO HGE HLN HD8 BMR KR K2 HO2
          go_wp2
          go_roundw
          case rel => exact ⟨j + 1, a2, c2, data ++ [cc], by go_num, by omega, HLN2, HD9, BM5, HO3, HGE2, KX⟩
          case measure => simp [intOf]; omega
        · have hjm2 : j = m := by omega
          have k0 : ¬ ((j : Int) < m) := by omega
          clear hjm hjm2
          have BRR : Hd (Blk wr w.heap.size #[.int .i64 0, .int .i64 0, .slice none 0 0] 37) := hid (blk_keep BR3.out KR.out (by omega))
          have KRR : Hd (Keeps (fun _ => False) w wr) := hid (K3.out.trans' KR.out (fun i hi h => by omega))
          have o0 : wr.cell? ⟨w.heap.size, 0, none⟩ = some (.int .i64 0) := blk_cell BRR.out 0
          have f0 : wr.frozen? ⟨w.heap.size, 0, none⟩ = false := blk_free BRR.out 0
          have o1 : wr.cell? ⟨w.heap.size, 1, none⟩ = some (.int .i64 0) := blk_cell BRR.out 1
          have f1 : wr.frozen? ⟨w.heap.size, 1, none⟩ = false := blk_free BRR.out 1
          have o2 : wr.cell? ⟨w.heap.size, 2, none⟩ = some (.slice none 0 0) := blk_cell BRR.out 2
          have f2 : wr.frozen? ⟨w.heap.size, 2, none⟩ = false := blk_free BRR.out 2
          have p0 : wr.cell? ⟨bm, 0, none⟩ = some (.int .i64 fr) := blk_cell BMR.out 0
          have p1 : wr.cell? ⟨bm, 1, none⟩ = some (.int .i64 tt) := blk_cell BMR.out 1
          have p2 : wr.cell? ⟨bm, 2, none⟩ = some (.slice a j c) := blk_cell BMR.out 2
          obtain ⟨KF, F2⟩ := fin3 KRR.out (Nat.le_refl _) BRR.out (.int .i64 fr) (.int .i64 tt) (.slice a j c)
          have KS2 : Hd (Keeps (fun b => b = w.heap.size) wr _) := hid (keq (keq (keq (Keeps.refl _ wr) 0 (.int .i64 fr)) 1 (.int .i64 tt)) 2 (.slice a j c))
          have r0 := blk_cell F2 0
          have r1 := blk_cell F2 1
          have r2 := blk_cell F2 2
          have HKF := hid KF
          clear KF F2
          go_wp2
          refine bodyPost_ret (v := .agg #[.int .i64 fr, .int .i64 tt, .slice a j c]) (by simp [results, Try.results9, go_sem, r0, r1, r2]) rfl ?_
          exact ⟨fr, tt, a, j, c, data, rfl, HLN.out.symm, by rw [HLN.out]; omega, HD8.out, (row_sl HO.out.row (by rw [u8s_length, HLN.out])).keep KS2.out (fun b _ h1 h2 => by have := HGE.out b h1; omega) |>.mono (fun b _ h => by have := HGE.out b h; omega), hfr, htt, HKF.out⟩
end Go.Proofs.Ytjapmpolagblaaa
