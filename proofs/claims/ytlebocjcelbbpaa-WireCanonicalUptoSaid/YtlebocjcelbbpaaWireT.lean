/- The walk of WireSticks. -/
import Derived.Test.YtlebocjcelbbpaaSameIt
import Derived.Test.YtlebocjcelbbpaaWireM2
import Derived.Deep.RegionWith
import Derived.Deep.RegionHeld3
import Derived.Deep.DrawnRows
import Derived.BigRegion
namespace Go.Proofs.Ytlebocjcelbbpaa
open Go.RowKit
attribute [local go_sem ↓] Go.wp_at_zero Go.wp_at_succ
theorem Rd.err {K : Nat → Prop} {w : World} {p : Nat} {s : St} (h : Rd K w p s) (h0 : s.1 ≠ 0) : Rd K w p (s.1, []) := by
  obtain ⟨bv, bs, at_, h1, h2, h3, h4, h5, h6, h7, h8, h9, h10, h11, h12⟩ := h
  exact ⟨bv, bs, at_, h1, h2, h3, h4, h5, h6, h7, h8, h9, h10, h11, fun h => absurd h h0⟩
theorem itv_zero (w : World) : ItV (fun _ => True) w (.agg #[.int .i64 0, .int .u64 0, .int .i64 0, .slice none 0 0, .slice none 0 0, .int .i64 0]) ⟨0, 0, 0, [], [], 0⟩ :=
  ⟨none, 0, 0, none, 0, 0, rfl, Sl.nil _ _, Sl.nil _ _⟩
theorem Its.at {K : Nat → Prop} {w : World} {v : Value} {l : List It} (h : Its K w v l) : ∃ a cap, v = .slice a l.length cap ∧
    (∀ k, k < l.length → ∃ x b o ab cb al cl, l[k]? = some x ∧ x ∈ l ∧ a = some ⟨b, o, none⟩ ∧ K b ∧ w.cell? ⟨b, o + k * 6, none⟩ = some (.int .i64 x.kind) ∧ w.cell? ⟨b, o + k * 6 + 1, none⟩ = some (.int .u64 (x.u : Nat)) ∧ w.cell? ⟨b, o + k * 6 + 2, none⟩ = some (.int .i64 x.n) ∧
      w.cell? ⟨b, o + k * 6 + 3, none⟩ = some (.slice ab x.b.length cb) ∧ w.cell? ⟨b, o + k * 6 + 4, none⟩ = some (.slice al x.l.length cl) ∧ w.cell? ⟨b, o + k * 6 + 5, none⟩ = some (.int .i64 x.most) ∧ Sl K w (.slice ab x.b.length cb) (u8s x.b) ∧ Sl K w (.slice al x.l.length cl) (i64s x.l)) := by
  obtain ⟨a, cap, rfl, hx⟩ := h.form
  refine ⟨a, cap, rfl, fun k hk => ?_⟩
  obtain ⟨b, o, vb, vl, rfl, hb0, e0, e1, e2, e3, e4, e5, hb, hl⟩ := hx k hk
  obtain ⟨ab, cb, rfl, _⟩ := hb.bytes
  obtain ⟨al, cl, rfl, _⟩ := hl.ints
  exact ⟨l[k], b, o, ab, cb, al, cl, List.getElem?_eq_getElem hk, List.getElem_mem hk, rfl, hb0, e0, e1, e2, e3, e4, e5, hb, hl⟩
set_option maxRecDepth 100000 in set_option maxHeartbeats 1000000 in
theorem wireSticks_any (v v2 : Value) (bs : List Nat) (c : Int) (l : List It) (w : World) (hv : Sl (fun k => k < w.heap.size) w v (u8s bs)) (hbs : ∀ c ∈ bs, c < 256) (hm : bs.length ≤ 140737488351232) (h2 : Its (fun k => k < w.heap.size) w v2 l) (hok : ∀ x ∈ l, x.ok)
    (hc : -9223372036854775808 ≤ c ∧ c ≤ 9223372036854775807) :
    Calls Try.prog 8 #[v, .int .i64 c, v2] w fun e w' => e = .returned (.bool true) ∧ Keeps (fun _ => False) w w' := by
  have HV := hid hv; have HBS := hid hbs; have HM := hid hm; have H2 := hid h2; have HOK := hid hok; have HC := hid hc
  obtain ⟨a, cap, rfl, hx⟩ := h2.at
  have HX := hid hx
  clear hx hv hbs hm h2 hok
  have hnn : Hd (l.length ≤ 9223372036854775807) := hid (by
    obtain ⟨xs, hr, _⟩ := H2.out
    obtain ⟨a, cap, e, h1, h2, _⟩ := hr.form
    unfold maxLen at h2; omega)
  generalize hll : l.length = m at *
  have HLL := hid hll; clear hll
  have hmm := hnn.out
  go_enter Try.func8, Try.ntmps8
  go_wp2_with fail
  refine (NewReader_any _ _ _ _ HV.out HM.out HBS.out).mono ?_
  rintro e w1 ⟨px, rfl, h1, h2, h3⟩
  have X1 := hid h1; have K1 := hid h3
  have hpx := h2
  clear h1 h2 h3
  go_wp2_with fail
  refine (RFail_any _ px (0, bs) 0 _ X1.out).mono ?_
  rintro e w2 ⟨rfl, h1, hk⟩
  have X2 : Hd (Rd (fun k => w.heap.size ≤ k ∧ k < px) w2 px (0, bs)) := hid (by simpa [sFail] using h1)
  have K2 : Hd (Keeps (fun _ => False) w w2) := hid (K1.out.trans' hk (fun i hi hs => by omega))
  clear h1 hk X1 K1
  go_wp2_with fail
  refine (RErr_any _ px _ _ X2.out).mono ?_
  rintro e w_ ⟨rfl, rfl⟩
  go_wp2_with fail
  refine (RFail_any _ px (0, bs) c _ X2.out).mono ?_
  rintro e w3 ⟨rfl, h1, hk⟩
  have X3 : Hd (Rd (fun k => w.heap.size ≤ k ∧ k < px) w3 px (c, bs)) := hid (by simpa [sFail] using h1)
  have K3 : Hd (Keeps (fun _ => False) w w3) := hid (K2.out.trans' hk (fun i hi hs => by omega))
  clear h1 hk X2 K2
  by_cases h0 : c = 0
  · subst h0
    go_wp2_with fail
    refine (lives_any _).mono ?_
    rintro e w4 ⟨rfl, hk⟩
    have K4 := hid (K3.out.trans hk); clear hk
    go_wp2
    go_ret
    exact ⟨rfl, K4.out⟩
  · have h0b : (c == 0) = false := by simp; exact h0
    have HC0 := hid h0
    go_wp2_with fail
    refine (RFail_any _ px (c, bs) _ _ X3.out).mono ?_
    rintro e w4 ⟨rfl, h1, hk⟩
    have X4 : Hd (Rd (fun k => w.heap.size ≤ k ∧ k < px) w4 px (c, [])) := hid (Rd.err (s := (c, bs)) (by simpa [sFail, h0] using h1) h0)
    have K4 : Hd (Keeps (fun _ => False) w w4) := hid (K3.out.trans' hk (fun i hi hs => by omega))
    clear h1 hk X3 K3 h0b
    go_wp2_with fail
    go_loopw [9] (fun i wr => ∃ k : Nat, i = .int .i64 k ∧ k ≤ m ∧ Hd (Rd (fun k => w.heap.size ≤ k ∧ k < px) wr px (c, [])) ∧ Hd (Keeps (fun _ => False) w wr)) (fun i _ => m - (intOf i).toNat)
    case atStart => exact ⟨0, rfl, by omega, X4, K4⟩
    case round =>
      clear X4 K4
      obtain ⟨k, rfl, hk, X5, K5⟩ := hrel
      by_cases hkm : k < m
      · obtain ⟨x, b, o, ab, cb, al, cl, hxk, hxm, rfl, hb0, e0, e1, e2, e3, e4, e5, hb, hl⟩ := HX.out k hkm
        have k1 : (k : Int) < m := by omega
        have k2 : (0 : Int) ≤ k := by omega
        have f0 := keep_cell K5.out (fun h => h) e0
        have f1 := keep_cell K5.out (fun h => h) e1
        have f2 := keep_cell K5.out (fun h => h) e2
        have f3 := keep_cell K5.out (fun h => h) e3
        have f4 := keep_cell K5.out (fun h => h) e4
        have f5 := keep_cell K5.out (fun h => h) e5
        have HXK := hid (HOK.out _ hxm)
        clear e0 e1 e2 e3 e4 e5 hb hl hxk hxm
        go_upto_region 15 with fail
        go_region_with (first | (go_at_call 31; refine (read_any (fun k => w.heap.size ≤ k ∧ k < px) px (c, []) _ _ _ _ _ _ _ _ _ _ _ _ (Rd.keep X5.out (Keeps.drew (Keeps.refl (fun _ => False) wr)) (fun h => h) (fun _ _ _ h => h)) HXK.out.2.2.2.2.2.2 (by simp)).mono ?_; unfold ReadPost; rw [rdIt_err HC0.out]; rintro e w6 ⟨vr, rfl, hv6, hr6, hk6⟩; replace hv6 := hid hv6; replace hr6 := hid hr6; replace hk6 := hid hk6) | (go_at_call 32; refine (same_any _ _ _ _ _ _ _ hv6.out (itv_zero _) rfl rfl rfl rfl (by simp) (by simp)).mono ?_; rintro e w7 ⟨rfl, hk7⟩; replace hk7 := hid hk7))
        all_goals
          have X7 : Hd (Rd (fun k => w.heap.size ≤ k ∧ k < px) w7 px (c, [])) := hid (Rd.keep hr6.out hk7.out (fun h => h) (fun _ _ _ h => h))
          have K7 : Hd (Keeps (fun _ => False) w w7) := hid (((Keeps.drew K5.out).trans' hk6.out (fun i hi hs => by omega)).trans hk7.out)
          clear hv6 hr6 hk6 hk7
          go_wp2
          go_roundw
          case rel => exact ⟨k + 1, by go_num, by omega, X7, K7⟩
          case measure => simp [intOf]; omega
      · have hkn : k = m := by omega
        subst hkn
        have hse : Hd (sEnd (c, []) = c) := hid (by simp [sEnd])
        clear hkm
        go_wp2_with fail
        refine (RErr_any _ px _ _ X5.out).mono ?_
        rintro e w_ ⟨rfl, rfl⟩
        go_wp2_with fail
        refine (REnd_any _ px _ _ X5.out).mono ?_
        rintro e w6 ⟨rfl, hd⟩
        rw [hse.out]
        have K6 := hid (K5.out.trans (drawn_keeps (fun _ => False) hd))
        clear hd
        go_wp2_with fail
        refine (lives_any _).mono ?_
        rintro e w7 ⟨rfl, hk7⟩
        have K7 := hid (K6.out.trans hk7)
        clear hk7
        go_wp2
        go_ret
        exact ⟨rfl, K7.out⟩
end Go.Proofs.Ytlebocjcelbbpaa
