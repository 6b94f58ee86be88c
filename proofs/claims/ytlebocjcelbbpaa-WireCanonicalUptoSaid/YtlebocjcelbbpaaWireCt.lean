/- The walk of WireCut. -/
import Derived.Test.YtlebocjcelbbpaaSameIt
import Derived.Test.YtlebocjcelbbpaaWireM2
import Derived.Test.YtlebocjcelbbpaaWireN
import Derived.Test.YtlebocjcelbbpaaWireT
import Derived.Deep.RegionHeld3
import Derived.Deep.DrawnRows
namespace Go.Proofs.Ytlebocjcelbbpaa
open Go.RowKit
attribute [local go_sem ↓] Go.wp_at_zero Go.wp_at_succ

theorem cut_place (cut : Int) (n : Nat) (h0 : ¬ n = 0) (h1 : n ≤ 1000000000) :
    (cut.tmod n < 0 ∧ ∃ q : Nat, wrap64 (cut.tmod n + n) = q ∧ q < n) ∨ (¬ cut.tmod n < 0 ∧ ∃ q : Nat, cut.tmod n = q ∧ q < n) := by
  have h4 : (cut.tmod n).natAbs < n := by
    have := Int.natAbs_tmod cut n
    rw [this]
    exact Nat.mod_lt _ (by simp; omega)
  by_cases h : cut.tmod n < 0
  · refine .inl ⟨h, (cut.tmod n + n).toNat, ?_, by omega⟩
    unfold wrap64; omega
  · exact .inr ⟨h, (cut.tmod n).toNat, by omega, by omega⟩

theorem itv_keep {K S : Nat → Prop} {w w' : World} {v : Value} {x : It} (h : ItV K w v x) (hk : Keeps S w w') (hd : ∀ b, b < w.heap.size → K b → ¬ S b) : ItV K w' v x := by
  obtain ⟨ab, nb, cb, al, nl, cl, rfl, h1, h2⟩ := h
  exact ⟨ab, nb, cb, al, nl, cl, rfl, h1.keep hk hd, h2.keep hk hd⟩
theorem sLoop_rest (n : Nat) : ∀ (s : St) (acc : List Int), (sLoop n s acc).1.2.length ≤ s.2.length := by
  induction n with
  | zero => intro s acc; simp [sLoop]
  | succ n ih =>
    intro s acc
    by_cases h0 : s.1 = 0
    · rw [sLoop_one h0]
      exact Nat.le_trans (ih _ _) (sU_rest s)
    · rw [sLoop_err h0]; exact Nat.le_refl _
theorem sB_rest (most : Int) (s : St) : (sB most s).1.2.length ≤ s.2.length := by
  have h := sSize_rest most s
  unfold sB
  split
  · split
    · exact h
    · simp only [List.length_drop]; omega
  · exact h
theorem sL_rest (most : Int) (s : St) : (sL most s).1.2.length ≤ s.2.length := by
  have h := Nat.le_trans (sLoop_rest (sSize most s).2 (sSize most s).1 []) (sSize_rest most s)
  unfold sL
  split
  · exact h
  · exact h
theorem rdIt_rest (kind most : Int) (s : St) : (rdIt kind most s).1.2.length ≤ s.2.length := by
  unfold rdIt
  split
  · exact sU_rest s
  · split
    · exact sU_rest s
    · split
      · exact sB_rest most s
      · exact sL_rest most s
theorem lenIt_any (K : Nat → Prop) (v : Value) (x : It) (w : World) (h : ItV K w v x) :
    Calls Try.prog 34 #[v] w fun e w' => e = .returned (.int .i64 (lenIt x : Nat)) ∧ Keeps (fun _ => False) w w' := length_any K v x w h
set_option maxRecDepth 100000 in set_option maxHeartbeats 1000000 in
theorem wireCut_any (v : Value) (l : List It) (cut : Int) (w : World) (hv : Its (fun k => k < w.heap.size) w v l) (hok : ∀ x ∈ l, x.ok) (hw : wts l ≤ 1000000000) :
    Calls Try.prog 10 #[v, .int .i64 cut] w fun e w' => e = .returned (.bool true) ∧ Keeps (fun _ => False) w w' := by
  have HV := hid hv; have HOK := hid hok; have HW := hid hw
  obtain ⟨a, cap, rfl, hx⟩ := hv.at
  have HX := hid hx
  clear hx hv hok hw
  have hle : Hd ((encAll l).length ≤ 1000000000) := hid (by have := encAll_len (l := l) HOK.out (by have := HW.out; omega); have := HW.out; omega)
  have hnn : l.length ≤ 1000000000 := by have := wts_len l; have := HW.out; omega
  generalize hll : l.length = m at *
  have HLL := hid hll; clear hll
  go_enter Try.func10, Try.ntmps10
  go_wp2_with fail
  refine (written_any _ _ l _ HV.out (fun _ h => h) HOK.out (by have := HW.out; omega)).mono ?_
  rintro e w1 ⟨a1, n1, c1, rfl, hn, ho, hk⟩
  have H1 : Hd (Sl (fun b => w.heap.size ≤ b) w1 (.slice a1 n1 c1) (u8s (encAll l))) := hid (row_sl ho.row hn.symm)
  have HO1 := hid ho.row
  have hn1 : n1 = (encAll l).length := by rw [hn, u8s_length]
  have HN1 := hid hn1
  have K1 := hid hk; have V1 := hid (HV.out.keep hk (fun _ _ _ h => h))
  have hl1 : n1 ≤ 1000000000 := by rw [hn1]; exact hle.out
  clear hn ho hk hn1
  by_cases h0 : n1 = 0
  · subst h0
    go_wp2_with fail
    refine (lives_any _).mono ?_
    rintro e w4 ⟨rfl, hk⟩
    have K4 := hid (K1.out.trans hk); clear hk
    go_wp2
    go_ret
    exact ⟨rfl, K4.out⟩
  · have h0i : ¬ (n1 : Int) = 0 := by omega
    obtain ⟨i0, hi, hz0, hz1, hz2⟩ := info_parts infoU8
    have hkey := cut_place cut n1 h0 hl1
    rcases hkey with ⟨hs, nn, hq, hlt⟩ | ⟨hs, nn, hq, hlt⟩
    all_goals
      obtain ⟨a2, c2, hcut, hrow2⟩ := run_cut_to (P := Try.prog) (t := 22) Try.underlying22 hi hz1 HO1.out (hh := (nn : Int)) nn rfl (by omega)
      have HLT := hid hlt
      have HS : Hd (Sl (fun b => w.heap.size ≤ b) w1 (.slice a2 nn c2) (u8s ((encAll l).take nn))) := hid (row_sl (by have := hrow2; rw [show (u8s (encAll l)).take (nn * 1) = u8s ((encAll l).take nn) by simp [u8s, List.map_take]] at this; exact this) (by rw [u8s_length, List.length_take]; have := HN1.out; have := HLT.out; omega))
      clear hrow2
      go_wp2_with fail
      refine (NewReader_any _ _ _ _ HS.out (by rw [List.length_take]; have := hle.out; omega) (fun c hc => encAll_lt HOK.out _ (List.mem_of_mem_take hc))).mono ?_
      rintro e w2 ⟨px, rfl, h1, h2, h3⟩
      have zk := K1.out.size
      have X2 : Hd (Rd (fun k => w.heap.size ≤ k ∧ k < px) w2 px (0, (encAll l).take nn)) := hid (h1.mono (fun k h _ => by omega) (fun h => by omega))
      have K2 := hid (K1.out.trans h3)
      have hpx : w.heap.size ≤ px := by omega
      clear h1 h2 h3 HS zk
      go_wp2_with fail
      go_loopw [8] (fun i wr => ∃ (k : Nat) (s : St), i = .int .i64 k ∧ k ≤ m ∧ Hd (Rd (fun k => w.heap.size ≤ k ∧ k < px) wr px s) ∧ Hd (cutSt l nn k s) ∧ Hd (s.2.length ≤ 1000000000) ∧ Hd (Keeps (fun _ => False) w wr)) (fun i _ => m - (intOf i).toNat)
      case atStart => exact ⟨0, (0, (encAll l).take nn), rfl, by omega, X2, hid (cutSt_zero l nn), hid (by show ((encAll l).take nn).length ≤ _; rw [List.length_take]; have := hle.out; omega), K2⟩
      case round =>
        clear X2 K2
        obtain ⟨k, s, rfl, hk, X5, hcs, hsl, K5⟩ := hrel
        by_cases hkm : k < m
        · obtain ⟨x, b, o, ab, cb, al, cl, hxk, hxm, rfl, hb0, e0, e1, e2, e3, e4, e5, hb, hl⟩ := HX.out k hkm
          have k1 : (k : Int) < m := by omega
          have k2 : (0 : Int) ≤ k := by omega
          have f0 := keep_cell K5.out (fun h => h) e0
          have f1 := keep_cell K5.out (fun h => h) e1
          have f2 := keep_cell K5.out (fun h => h) e2
          have f3 := keep_cell K5.out (fun h => h) e3
          have f4 := keep_cell K5.out (fun h => h) e4
          have f5 := keep_cell K5.out (fun h => h) e5
          have HXK := hid (HOK.out _ hxm)
          have HXM := hid hxm
          have HIV : Hd (ItV (fun b => b < w.heap.size) wr (.agg #[.int .i64 x.kind, .int .u64 (x.u : Nat), .int .i64 x.n, .slice ab x.b.length cb, .slice al x.l.length cl, .int .i64 x.most]) x) := hid ⟨ab, _, cb, al, _, cl, rfl, hb.keep K5.out (fun _ _ _ h => h), hl.keep K5.out (fun _ _ _ h => h)⟩
          have HCS : Hd (cutSt l nn (k + 1) (rdIt x.kind (lenIt x) s).1) := hid (by
            have hk' : k < l.length := by rw [HLL.out]; exact hkm
            have := cutSt_succ hcs.out hk' HOK.out (by have := HW.out; omega)
            rw [List.getElem?_eq_getElem hk'] at hxk
            injection hxk with hxk
            rw [hxk] at this; exact this)
          have HRL : Hd ((rdIt x.kind (lenIt x) s).1.2.length ≤ 1000000000) := hid (Nat.le_trans (rdIt_rest _ _ _) hsl.out)
          have HWX : Hd ((lenIt x : Int) ≤ 9223372036854775807) := hid (by have h1 := wts_mem hxm; have h2 := HW.out; unfold It.wt at h1; unfold lenIt; split <;> omega)
          clear e0 e1 e2 e3 e4 e5 hb hl hxk hxm hcs
          go_upto_region 13 with fail
          go_region_with (first | (go_at_call 34; refine (lenIt_any (fun b => b < w.heap.size) _ x _ (itv_keep HIV.out (Keeps.drew (Keeps.refl (fun _ => False) wr)) (fun _ _ _ h => h))).mono ?_; rintro e w5 ⟨rfl, hk5⟩; replace hk5 := Keeps.trans (Keeps.drew (Keeps.refl (fun _ => False) wr)) hk5; have g0 := keep_cell hk5 (fun h => h) f0; have g1 := keep_cell hk5 (fun h => h) f1; have g2 := keep_cell hk5 (fun h => h) f2; have g3 := keep_cell hk5 (fun h => h) f3; have g4 := keep_cell hk5 (fun h => h) f4; have g5 := keep_cell hk5 (fun h => h) f5; replace hk5 := hid hk5) | (go_at_call 31; refine (read_any (fun k => w.heap.size ≤ k ∧ k < px) px s _ _ _ _ (lenIt x : Nat) _ _ _ _ _ _ _ (Rd.keep X5.out hk5.out (fun h => h) (fun _ _ _ h => h)) HWX.out (by have := hsl.out; omega)).mono ?_; rintro e w6 ⟨vr, rfl, hv6, hr6, hk6⟩; replace hv6 := hid hv6; replace hr6 := hid hr6; replace hk6 := hid hk6))
          all_goals
            have K7 : Hd (Keeps (fun _ => False) w w6) := hid ((K5.out.trans hk5.out).trans' hk6.out (fun i hi hs => by omega))
            clear g0 g1 g2 g3 g4 g5 f0 f1 f2 f3 f4 f5
            go_wp2
            go_roundw
            case rel => exact ⟨k + 1, _, by go_num, by omega, hr6, HCS, HRL, K7⟩
            case measure => simp [intOf]; omega
        · have hkn : k = m := by omega
          subst hkn
          have hs6 : Hd (s.1 = 6) := hid (cutSt_end (by have := hcs.out; rw [HLL.out]; exact this) (by have := HN1.out; have := HLT.out; omega))
          have hse : Hd (sEnd s = 6) := hid (by unfold sEnd; rw [if_neg (by rw [hs6.out]; omega)]; exact hs6.out)
          clear hkm
          go_wp2_with fail
          refine (RErr_any _ px _ _ X5.out).mono ?_
          rw [hs6.out]
          rintro e w_ ⟨rfl, rfl⟩
          go_wp2_with fail
          refine (REnd_any _ px _ _ X5.out).mono ?_
          rw [hse.out]
          rintro e w6 ⟨rfl, hd⟩
          have K6 := hid (K5.out.trans (drawn_keeps (fun _ => False) hd))
          clear hd
          go_wp2_with fail
          refine (lives_any _).mono ?_
          rintro e w7 ⟨rfl, hk7⟩
          have K7 := hid (K6.out.trans hk7)
          clear hk7
          go_wp2
          go_ret
          exact ⟨rfl, K7.out⟩
end Go.Proofs.Ytlebocjcelbbpaa
