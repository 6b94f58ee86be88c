/- File: the reference's parts: NewPart, Valid, Gaps. -/
import Derived.Test.YtgeicbjlichdgaaDoorFileQ
import Derived.Test.YtgeicbjlichdgaaDoorFileS
namespace Go.Proofs.YtgeicbjlichdgaaDoor
open Go.RowKit
attribute [local go_sem ↓] Go.wp_at_zero Go.wp_at_succ
/-- the gaps as the reference grows them -/
def rg (hv : List Bool) (k : Nat) : List (Int × Int) := if (gst (hv ++ [true]) k).1 < 0 then (gst (hv ++ [true]) k).2 else (gst (hv ++ [true]) k).2 ++ [((gst (hv ++ [true]) k).1, (k : Int))]
theorem rg_zero (hv : List Bool) : rg hv 0 = [] := rfl
theorem rg_step (hv : List Bool) (k : Nat) (hk : k < hv.length) : (hv.getD k false = true → rg hv (k + 1) = rg hv k) ∧
    (hv.getD k false = false → ((∃ g f, rg hv k = g ++ [(f, (k : Int))] ∧ rg hv (k + 1) = g ++ [(f, (k : Int) + 1)]) ∨ ((∀ p ∈ rg hv k, p.2 < k) ∧ rg hv (k + 1) = rg hv k ++ [((k : Int), (k : Int) + 1)]))) := by
  have hG := gst_gi (hv ++ [true]) k
  have hin := hG.inn
  have hgd : (hv ++ [true]).getD k false = hv.getD k false := getD_app1 hv k hk
  unfold rg
  rw [gst_s, hgd]
  clear hG
  generalize gst (hv ++ [true]) k = st at *
  obtain ⟨s, g⟩ := st
  simp only [] at hin ⊢
  unfold gstep
  refine ⟨fun h => ?_, fun h => ?_⟩
  · rw [h]
    simp only [Bool.true_eq_false, false_and, if_false, true_and]
    by_cases hs : s < 0
    · rw [if_neg (show ¬ (0 ≤ s) by omega)]
      simp only [if_pos hs]
    · rw [if_pos (show 0 ≤ s by omega)]
      simp only [if_neg hs]
      rfl
  · rw [h]
    simp only [true_and, Bool.false_eq_true, false_and, if_false]
    by_cases hs : s < 0
    · rw [if_pos hs]
      right
      simp only [if_pos hs]
      refine ⟨fun p hp => by have := (hin p hp).2; omega, ?_⟩
      rw [if_neg (show ¬ ((k : Int) < 0) by omega)]
      rfl
    · rw [if_neg hs]
      left
      simp only [if_neg hs]
      exact ⟨g, s, rfl, rfl⟩
theorem rg_done (hv : List Bool) : rg hv hv.length = gapsL hv := by
  unfold rg gapsL
  rw [gst_s]
  have hlast : (hv ++ [true]).getD hv.length false = true := by unfold List.getD; rw [List.getElem?_concat_length]; rfl
  rw [hlast]
  generalize gst (hv ++ [true]) hv.length = st
  obtain ⟨s, g⟩ := st
  unfold gstep
  simp only [Bool.true_eq_false, false_and, if_false, true_and]
  by_cases hs : s < 0
  · rw [if_pos hs, if_neg (show ¬ (0 ≤ s) by omega)]
  · rw [if_neg hs, if_pos (show 0 ≤ s by omega)]
theorem rg_len (hv : List Bool) : ∀ k, k ≤ hv.length → (rg hv k).length ≤ k
  | 0, _ => by rw [rg_zero]; simp
  | k + 1, h => by
    obtain ⟨h1, h2⟩ := rg_step hv k (by omega)
    have ih := rg_len hv k (by omega)
    cases hc : hv.getD k false with
    | true => rw [h1 hc]; omega
    | false =>
      rcases h2 hc with ⟨g, f, e1, e2⟩ | ⟨_, e⟩
      · rw [e2]; rw [e1] at ih; simp at ih ⊢; omega
      · rw [e, List.length_append]; simp; exact ih
theorem gpX_set (g : List (Int × Int)) (f e e' : Int) : (gpX (g ++ [(f, e)])).set (g.length * 2 + 1) (.int .i64 e') = gpX (g ++ [(f, e')]) := by
  rw [gpX_app, gpX_app, List.set_append_right _ _ (by rw [gpX_len]; omega), gpX_len, show g.length * 2 + 1 - g.length * 2 = 1 by omega]
  rfl
set_option maxRecDepth 100000 in set_option maxHeartbeats 1000000 in
theorem RNewPart_any (id : Int) (w : World) : Calls Tryd.prog 31 #[.int .i64 id] w fun e w' => e = .returned (.agg #[.int .i64 id, .bool false, .int .i64 0, .int .u32 0, .slice none 0 0, .slice none 0 0]) ∧ Keeps (fun _ => False) w w' := by
  go_enter Tryd.func31, Tryd.ntmps31
  go_wp2
  have k1 : Keeps (fun _ => False) w (w.alloc (.cells #[.int .i64 id, .bool false, .int .i64 0, .int .u32 0, .slice none 0 0, .slice none 0 0] 61)) := keeps_alloc _ _ _
  have b1 := blk_new w #[.int .i64 id, .bool false, .int .i64 0, .int .u32 0, .slice none 0 0, .slice none 0 0] 61
  have r0 := blk_cell b1 0; have r1 := blk_cell b1 1; have r2 := blk_cell b1 2; have r3 := blk_cell b1 3; have r4 := blk_cell b1 4; have r5 := blk_cell b1 5
  refine bodyPost_ret (v := .agg #[.int .i64 id, .bool false, .int .i64 0, .int .u32 0, .slice none 0 0, .slice none 0 0]) (by simp [results, Tryd.results31, go_sem, r0, r1, r2, r3, r4, r5]) rfl ⟨rfl, k1⟩
set_option maxRecDepth 100000 in set_option maxHeartbeats 1000000 in
theorem RValid_any (x : Seg) (a : Option Addr) (c : Nat) (w : World) (hx : -9223372036854775808 ≤ x.t ∧ x.t ≤ 9223372036854775807) :
    Calls Tryd.prog 47 #[.agg #[.int .i64 x.f, .int .i64 x.o, .int .i64 x.t, .int .u32 (x.s : Int), .slice a x.d.length c]] w fun e w' => e = .returned (.bool (decide (Valid x))) ∧ Keeps (fun _ => False) w w' := by
  have KA := hid (keeps_alloc (fun _ => False) w (.cells #[.int .i64 x.f, .int .i64 x.o, .int .i64 x.t, .int .u32 (x.s : Int), .slice a x.d.length c] 44))
  have HV : Hd (Valid x ↔ 0 ≤ x.t ∧ x.t ≤ 65536 ∧ x.d.length ≤ 256 ∧ 0 ≤ x.o ∧ x.o ≤ x.t - x.d.length) := hid Iff.rfl
  obtain ⟨r, hr⟩ : ∃ r, decide (Valid x) = r := ⟨_, rfl⟩
  have HR := hid hr
  rw [hr]
  clear hr
  obtain ⟨xf, xo, xt, xs, xd⟩ := x
  simp only [] at HV hx ⊢
  generalize xd.length = n at *
  have go : ∀ b : Bool, (b = true ↔ 0 ≤ xt ∧ xt ≤ 65536 ∧ n ≤ 256 ∧ 0 ≤ xo ∧ xo ≤ xt - n) → r = b := fun b hb => by
    rw [← HR.out]
    cases b with
    | true => exact decide_eq_true (HV.out.2 (hb.1 rfl))
    | false => exact decide_eq_false (fun h => by have := hb.2 (HV.out.1 h); cases this)
  have GO := hid go
  clear go HV HR
  have fin : ∀ (b : Bool), (b = true ↔ 0 ≤ xt ∧ xt ≤ 65536 ∧ n ≤ 256 ∧ 0 ≤ xo ∧ xo ≤ xt - n) → Ending.returned (.bool b) = .returned (.bool r) := fun b hb => by rw [GO.out b hb]
  have FIN := hid fin
  clear fin
  have k0 := KA.out
  by_cases h1 : 0 ≤ xt
  · by_cases h2 : xt ≤ 65536
    · by_cases h3 : n ≤ 256
      · by_cases h4 : 0 ≤ xo
        · by_cases h5 : xo ≤ xt
          · have w1 : IntKind.i64.wrap (xt - xo) = xt - xo := IntWalk.i64_in _ (by omega)
            have h3' : (n : Int) ≤ 256 := by omega
            by_cases h6 : (n : Int) ≤ xt - xo
            · go_enter Tryd.func47, Tryd.ntmps47
              go_wp2
              go_ret
              exact ⟨FIN.out _ (by simp; omega), KA.out⟩
            · go_enter Tryd.func47, Tryd.ntmps47
              go_wp2
              go_ret
              exact ⟨FIN.out _ (by simp; omega), KA.out⟩
          · have h3' : (n : Int) ≤ 256 := by omega
            go_enter Tryd.func47, Tryd.ntmps47
            go_wp2
            go_ret
            exact ⟨FIN.out _ (by simp; omega), KA.out⟩
        · have h3' : (n : Int) ≤ 256 := by omega
          go_enter Tryd.func47, Tryd.ntmps47
          go_wp2
          go_ret
          exact ⟨FIN.out _ (by simp; omega), KA.out⟩
      · have h3' : ¬ ((n : Int) ≤ 256) := by omega
        go_enter Tryd.func47, Tryd.ntmps47
        go_wp2
        go_ret
        exact ⟨FIN.out _ (by simp; omega), KA.out⟩
    · go_enter Tryd.func47, Tryd.ntmps47
      go_wp2
      go_ret
      exact ⟨FIN.out _ (by simp; omega), KA.out⟩
  · go_enter Tryd.func47, Tryd.ntmps47
    go_wp2
    go_ret
    exact ⟨FIN.out _ (by simp; omega), KA.out⟩
set_option maxRecDepth 100000 in set_option maxHeartbeats 1000000 in
theorem RGaps_any (K : Nat → Prop) (M : Pm) (ah : Option Addr) (ch : Nat) (ad : Option Addr) (cd : Nat) (w : World) (hM : M.ok) (hr : Row K w 1 (.slice ah M.hv.length ch) M.hv.length (bls M.hv)) :
    Calls Tryd.prog 49 #[.agg #[.int .i64 M.id, .bool M.kn, .int .i64 (M.dt.length : Int), .int .u32 (M.sm : Int), .slice ah M.hv.length ch, .slice ad M.dt.length cd]] w fun e w' => ∃ a c, e = .returned (.slice a (gapsM M).length c) ∧ Own (fun b => w.heap.size ≤ b) w' 52 2 (.slice a (gapsM M).length c) (gapsM M).length (gpX (gapsM M)) ∧ Keeps (fun _ => False) w w' := by
  obtain ⟨i0, zz, hi, hz0, hz1, hz2, hz3⟩ := gp_parts
  have HR : Hd (Row (fun b => b < w.heap.size) w 1 (.slice ah M.hv.length ch) M.hv.length (bls M.hv)) := hid (hr.mono (fun b h _ => h))
  have hm : M.hv.length ≤ 65536 := by rw [hM.len]; exact hM.max
  clear hr
  have HG1 : Hd (M.kn = true → gapsM M = rg M.hv M.hv.length) := hid (fun h => by unfold gapsM; rw [if_pos h, rg_done])
  have HG2 : Hd (M.kn = false → gapsM M = [(0, 65536)]) := hid (fun h => by unfold gapsM; rw [h]; rfl)
  obtain ⟨G, hG⟩ : ∃ G, gapsM M = G := ⟨_, rfl⟩
  rw [hG] at HG1 HG2 ⊢
  clear hG
  obtain ⟨id, kn, sm, hv, dt⟩ := M
  simp only [] at HR hm HG1 HG2 ⊢
  clear hM
  generalize dt.length = nd at *
  obtain ⟨n, hn⟩ : ∃ n, hv.length = n := ⟨_, rfl⟩
  rw [hn] at HR hm HG1 ⊢
  have HNL := hid hn
  clear hn
  cases kn with
  | false =>
    have HGE := hid (HG2.out rfl)
    go_enter Tryd.func49, Tryd.ntmps49
    go_wp2
    go_ret
    rw [HGE.out]
    generalize hW : World.alloc w _ = W1
    have zW : W1.heap.size = w.heap.size + 1 := by rw [← hW]; simp
    have kW : Keeps (fun _ => False) w W1 := by rw [← hW]; exact keeps_alloc _ _ _
    clear hW
    rw [← zW]
    exact ⟨_, 1, rfl, ⟨World.ownsRow_lit (base := 0) (e := 52) W1 #[.int .i64 0, .int .i64 65536] 1 (Nat.zero_le _) (by decide) rfl, fun b hb => by injection hb with hb; simp at hb; omega⟩, kW.alloc _⟩
  | true =>
    have HGE := hid (HG1.out rfl)
    clear HG1 HG2
    go_enter Tryd.func49, Tryd.ntmps49
    go_upto_region 1 with fail
    generalize hW : World.alloc w _ = W1
    have BQ : Hd (Blk W1 w.heap.size #[.int .i64 id, .bool true, .int .i64 (nd : Int), .int .u32 (sm : Int), .slice ah n ch, .slice ad nd cd] 61) := hid (by rw [← hW]; exact blk_new _ _ _)
    have HK1 : Hd (Keeps (fun _ => False) w W1) := hid (by rw [← hW]; exact keeps_alloc _ _ _)
    clear hW
    have HR1 := hid (HR.out.keep HK1.out (fun _ _ _ h => h))
    have z1 := HK1.out.size
    have zq := blk_lt BQ.out
    have q1 : W1.cell? ⟨w.heap.size, 1, none⟩ = some (.bool true) := blk_cell BQ.out 1
    go_wp2_with fail
    clear q1
    go_loopw [3, 4] (fun ov iv wr => ∃ (k : Nat) (a : Option Addr) (c : Nat), ov = .slice a (rg hv k).length c ∧ iv = .int .i64 k ∧ k ≤ n ∧ Hd (Own (fun b => W1.heap.size ≤ b) wr 52 2 (.slice a (rg hv k).length c) (rg hv k).length (gpX (rg hv k))) ∧ Hd (Keeps (fun _ => False) W1 wr)) (fun _ iv _ => n - (intOf iv).toNat)
    case atStart => exact ⟨0, none, 0, rfl, rfl, Nat.zero_le _, hid (by rw [rg_zero]; exact Own.nil _ _ _ _), hid (Keeps.refl _ _)⟩
    case round =>
      obtain ⟨k, a, c, rfl, rfl, hk, OR, KR⟩ := hrel
      have q4 : wr.cell? ⟨w.heap.size, 4, none⟩ = some (.slice ah n ch) := blk_cell (blk_keep BQ.out KR.out (fun h => h)) 4
      by_cases hkn : k < n
      · have k1 : (k : Int) < n := by omega
        have k2 : (0 : Int) ≤ k := by omega
        obtain ⟨a', c', e', _, _, hel⟩ := (HR1.out.keep KR.out (fun _ _ _ h => h)).form
        injection e' with e1 e2 e3
        subst e1; subst e3; clear e2
        obtain ⟨bb, bo, rfl, hbb, hbb2, hcell⟩ := hel (by omega)
        have g0 : wr.cell? ⟨bb, bo + k, none⟩ = some (.bool (hv.getD k false)) := by
          rw [hcell k (by omega)]; simp [bls, List.getD, HNL.out, hkn]
        obtain ⟨s1, s2⟩ := rg_step hv k (by rw [HNL.out]; exact hkn)
        have hlr := rg_len hv k (by rw [HNL.out]; exact hk)
        have hlr1 := rg_len hv (k + 1) (by rw [HNL.out]; exact hkn)
        have HS1 := hid s1; have HS2 := hid s2
        clear s1 s2 hel hcell
        generalize hR : rg hv k = R at *
        generalize hR' : rg hv (k + 1) = R' at *
        have HRE' := hid hR'
        clear hR hR'
        obtain ⟨is, his⟩ : ∃ is, hv.getD k false = is := ⟨_, rfl⟩
        rw [his] at HS1 HS2 g0
        clear his
        cases is with
        | true =>
          have HE := hid (HS1.out rfl)
          clear HS1 HS2
          go_wp2
          go_roundw
          case rel => exact ⟨k + 1, a, c, by rw [HRE'.out, HE.out], by go_num, by omega, hid (by rw [HRE'.out, HE.out]; exact OR.out), KR⟩
          case measure => simp [intOf]; omega
        | false =>
          rcases HS2.out rfl with ⟨g, f, e1, e2⟩ | ⟨e1, e2⟩
          · subst e1; subst e2
            rw [List.length_append, List.length_singleton] at OR hlr ⊢
            have HL1 : Hd (∀ x : Int × Int, (g ++ [x]).length = g.length + 1) := hid (fun x => by simp)
            generalize hgl : g.length = m at *
            obtain ⟨gb, rfl, hgb⟩ := own_head OR.out (by omega)
            have hr1 : wr.cell? ⟨gb, m * 2 + 1, none⟩ = some (.int .i64 (k : Int)) := by
              rw [OR.out.1.cellAt (m * 2 + 1) (by omega), gpX_app, List.getElem?_append_right (by rw [gpX_len, hgl]; omega), gpX_len, hgl, show m * 2 + 1 - m * 2 = 1 by omega]; rfl
            have hr2 : wr.frozen? ⟨gb, m * 2 + 1, none⟩ = false := OR.out.1.frozenAt _
            have HST := hid (OR.out.1.stored (m * 2 + 1) (.int .i64 ((k : Int) + 1))).1
            have HGS := hid (gpX_set g f (k : Int) ((k : Int) + 1))
            rw [hgl] at HGS
            clear hgl
            have u1 : ((m + 1 : Nat) : Int) - 1 = (m : Int) := by omega
            have u2 : IntKind.i64.wrap (((m + 1 : Nat) : Int) - 1) = (m : Int) := by rw [u1]; exact IntWalk.i64_in _ (by omega)
            have u3 : IntKind.i64.wrap ((m : Int) + 1 - 1) = (m : Int) := IntWalk.i64_in _ (by omega) |>.trans (by omega)
            have u4 : (0 : Int) ≤ m := by omega
            go_wp2
            go_roundw
            case rel => exact ⟨k + 1, some ⟨gb, 0, none⟩, c, by rw [HRE'.out, HL1.out], by go_num, by omega, hid (by rw [HRE'.out, HL1.out, ← HGS.out]; exact ⟨HST.out, OR.out.2⟩), hid (KR.out.setCell (.inr (by omega)) _)⟩
            case measure => simp [intOf]; omega
          · subst e2
            obtain ⟨m, hm2⟩ : ∃ m, R.length = m := ⟨_, rfl⟩
            rw [hm2] at OR hlr ⊢
            have HML := hid hm2
            have HXO : Hd (Own (fun b => W1.heap.size ≤ b) (wr.alloc (.cells #[.int .i64 (k : Int), .int .i64 ((k : Int) + 1)] 52)) 52 2 (.slice a m c) m (gpX R)) := hid (OR.out.alloc _)
            have HNR : Hd (Row (fun _ => True) (wr.alloc (.cells #[.int .i64 (k : Int), .int .i64 ((k : Int) + 1)] 52)) 2 (.slice (some ⟨wr.heap.size, 0, none⟩) 1 1) 1 [.int .i64 (k : Int), .int .i64 ((k : Int) + 1)]) := hid (lit_rowF wr _ _ 1 2 rfl (by decide))
            have h1s : ∀ u ∈ [Value.int .i64 (k : Int), .int .i64 ((k : Int) + 1)], u.oneCell' = true := by intro u hu; simp at hu; rcases hu with rfl | rfl <;> rfl
            have HFIN : Hd (∀ a7 c7 V, Own (fun b => W1.heap.size ≤ b ∨ (wr.alloc (.cells #[.int .i64 (k : Int), .int .i64 ((k : Int) + 1)] 52)).heap.size ≤ b) V 52 2 (.slice a7 (m + 1) c7) (m + 1) (gpX R ++ [.int .i64 (k : Int), .int .i64 ((k : Int) + 1)]) → Keeps (fun b => W1.heap.size ≤ b) (wr.alloc (.cells #[.int .i64 (k : Int), .int .i64 ((k : Int) + 1)] 52)) V →
              Own (fun b => W1.heap.size ≤ b) V 52 2 (.slice a7 (rg hv (k + 1)).length c7) (rg hv (k + 1)).length (gpX (rg hv (k + 1))) ∧ Keeps (fun _ => False) W1 V) := hid (fun a7 c7 V ho hk7 => by
                have e : (R ++ [((k : Int), (k : Int) + 1)]).length = m + 1 := by rw [List.length_append, HML.out]; rfl
                have zz := KR.out.size
                rw [HRE'.out, e]
                exact ⟨(ho.mono (fun b _ h => by simp at h; omega) : Own (fun b => W1.heap.size ≤ b) V _ _ _ _ (gpX R ++ gpX [((k : Int), (k : Int) + 1)])) |> fun h => by rw [gpX_app]; exact h, (KR.out.alloc _).trans' hk7 (fun b hb h => by omega)⟩)
            have HMR : Hd ((rg hv (k + 1)).length = m + 1) := hid (by rw [HRE'.out, List.length_append, HML.out]; rfl)
            clear hm2 HRE' hlr1
            rcases Nat.eq_zero_or_pos m with hm0 | hm0
            · subst hm0
              go_wp2_with (at_builtin; refine wpList_append_row rfl (.tmp 44) (.tmp 49) 32 rfl 52 i0 zz 2 16 Tryd.underlying32 hi hz0 hz1 hz2 hz3 (by decide) _ (fun _ => True) (.slice a 0 c) _ 0 (gpX R) rfl HXO.out 1 _ rfl HNR.out h1s (by simp [maxLen]) (by omega) ?_)
              intro a7 c7 V hown hk7; try intro _
              obtain ⟨f1, f2⟩ := HFIN.out a7 c7 V (by simpa using hown) hk7
              have F1 := hid f1; have F2 := hid f2
              clear f1 f2 hown hk7
              go_wp2
              go_roundw
              case rel => exact ⟨k + 1, a7, c7, by rw [HMR.out], by go_num, by omega, F1, F2⟩
              case measure => simp [intOf]; omega
            · obtain ⟨m', rfl⟩ : ∃ m', m = m' + 1 := ⟨m - 1, by omega⟩
              obtain ⟨gb, rfl, hgb⟩ := own_head OR.out (by omega)
              have hp : ∃ p, R[m']? = some p := ⟨R[m']'(by rw [HML.out]; omega), List.getElem?_eq_getElem _⟩
              obtain ⟨p, hp⟩ := hp
              have hpl := e1 p (List.mem_of_getElem? hp)
              have hr1 : wr.cell? ⟨gb, m' * 2 + 1, none⟩ = some (.int .i64 p.2) := by
                rw [OR.out.1.cellAt (m' * 2 + 1) (by omega), show gpX R = R.flatMap gpC from rfl, flat_get gpC 2 (fun _ => rfl) R m' p 1 hp (by omega)]; rfl
              have u2 : IntKind.i64.wrap (((m' + 1 : Nat) : Int) - 1) = (m' : Int) := by rw [show ((m' + 1 : Nat) : Int) - 1 = m' by omega]; exact IntWalk.i64_in _ (by omega)
              have u3 : IntKind.i64.wrap ((m' : Int) + 1 - 1) = (m' : Int) := IntWalk.i64_in _ (by omega) |>.trans (by omega)
              have u4 : (0 : Int) ≤ m' := by omega
              have u5 : (p.2 == (k : Int)) = false := by simp; omega
              clear e1 hp
              generalize p.2 = pe at *
              go_wp2_with (at_builtin; refine wpList_append_row rfl (.tmp 44) (.tmp 49) 32 rfl 52 i0 zz 2 16 Tryd.underlying32 hi hz0 hz1 hz2 hz3 (by decide) _ (fun _ => True) (.slice (some ⟨gb, 0, none⟩) (m' + 1) c) _ (m' + 1) (gpX R) rfl HXO.out 1 _ rfl HNR.out h1s (by simp [maxLen]; omega) (by omega) ?_)
              intro a7 c7 V hown hk7; try intro _
              obtain ⟨f1, f2⟩ := HFIN.out a7 c7 V (by simpa using hown) hk7
              have F1 := hid f1; have F2 := hid f2
              clear f1 f2 hown hk7
              go_wp2
              go_roundw
              case rel => exact ⟨k + 1, a7, c7, by rw [HMR.out], by go_num, by omega, F1, F2⟩
              case measure => simp [intOf]; omega
      · obtain rfl : k = n := by omega
        have k0 : ¬ ((k : Int) < k) := by omega
        go_wp2
        go_ret
        rw [HGE.out]
        exact ⟨a, c, rfl, OR.out.mono (fun b _ h => by omega), HK1.out.trans KR.out⟩
end Go.Proofs.YtgeicbjlichdgaaDoor
