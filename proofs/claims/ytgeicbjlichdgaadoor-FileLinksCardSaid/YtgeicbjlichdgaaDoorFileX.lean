/- File: Missing; the bounds of gaps. -/
import Derived.Test.YtgeicbjlichdgaaDoorFileQ
import Derived.Test.YtgeicbjlichdgaaDoorFileV
namespace Go.Proofs.YtgeicbjlichdgaaDoor
open Go.RowKit
attribute [local go_sem ↓] Go.wp_at_zero Go.wp_at_succ
theorem gapsM_ok {M : Pm} (h : M.ok) : (gapsM M).length ≤ 65537 ∧ ∀ p ∈ gapsM M, 0 ≤ p.1 ∧ p.1 ≤ p.2 ∧ p.2 ≤ 65536 := by
  have hl : M.hv.length ≤ 65536 := by rw [h.len]; exact h.max
  unfold gapsM
  cases M.kn with
  | false => exact ⟨by simp, fun p hp => by simp at hp; subst hp; exact ⟨by show (0 : Int) ≤ 0; omega, by show (0 : Int) ≤ 65536; omega, by show (65536 : Int) ≤ 65536; omega⟩⟩
  | true =>
    refine ⟨?_, fun p hp => ?_⟩
    · have := (gst_b (M.hv ++ [true]) (M.hv.length + 1)).2.2
      show (gst (M.hv ++ [true]) (M.hv.length + 1)).2.length ≤ _
      omega
    · obtain ⟨h1, h2, h3⟩ := (gaps_all M.hv).2.2.1 p hp
      omega
theorem missL_step {l : List (Int × Int)} {k : Nat} {x : Int × Int} (h : l[k]? = some x) : missL (l.take (k + 1)) = missL (l.take k) + x.2 - x.1 := by
  unfold missL
  rw [List.take_add_one, h, List.map_append, List.sum_append]
  simp; omega
set_option maxRecDepth 100000 in set_option maxHeartbeats 1000000 in
theorem Missing_any (K : Nat → Prop) (v : Value) (l : List (Int × Int)) (w : World) (h1 : Gps K w v l) (hl : l.length ≤ 65537) (hb : ∀ p ∈ l, 0 ≤ p.1 ∧ p.1 ≤ p.2 ∧ p.2 ≤ 65536) :
    Calls Tryd.prog 30 #[v] w fun e w' => e = .returned (.int .i64 (missL l)) ∧ Keeps (fun _ => False) w w' := by
  obtain ⟨a1, c1, rfl, q1, q2, _⟩ := Row.form h1
  have H1 := hid h1; have HB := hid hb
  clear h1 q2 hb
  generalize hln : l.length = m at *
  have HLN := hid hln; clear hln
  go_enter Tryd.func30, Tryd.ntmps30
  go_wp2_with fail
  go_loopw [3, 4] (fun s i wr => ∃ k : Nat, i = .int .i64 k ∧ k ≤ m ∧ s = .int .i64 (missL (l.take k)) ∧ Hd (0 ≤ missL (l.take k) ∧ missL (l.take k) ≤ 65536 * k) ∧ Hd (Keeps (fun _ => False) w wr)) (fun _ i _ => m - (intOf i).toNat)
  case atStart => exact ⟨0, rfl, Nat.zero_le _, rfl, hid ⟨by simp [missL], by simp [missL]⟩, hid (Keeps.refl _ _)⟩
  case round =>
    obtain ⟨k, rfl, hk, rfl, HM, KR⟩ := hrel
    have k2 : (0 : Int) ≤ k := by omega
    by_cases hkm : k < m
    · have k1 : (k : Int) < m := by omega
      obtain ⟨x, hx⟩ : ∃ x, l[k]? = some x := ⟨l[k]'(by rw [HLN.out]; exact hkm), List.getElem?_eq_getElem _⟩
      obtain ⟨b1, o1, rfl, hb1, hb2, s0, s1⟩ := gps_at H1.out hx
      have f0 := keep_cell KR.out (fun h => h) s0; have f1 := keep_cell KR.out (fun h => h) s1
      obtain ⟨x0, x1, x2⟩ := HB.out x (List.mem_of_getElem? hx)
      have HSX := hid (missL_step hx)
      obtain ⟨m0, m1⟩ := HM.out
      obtain ⟨s, hs⟩ : ∃ s, missL (l.take k) = s := ⟨_, rfl⟩
      rw [hs] at HSX m0 m1 ⊢
      obtain ⟨u, t⟩ := x
      simp only [] at f0 f1 x0 x1 x2 HSX
      have w1 : IntKind.i64.wrap (s + t) = s + t := IntWalk.i64_in _ (by omega)
      have w2 : IntKind.i64.wrap (s + t - u) = s + t - u := IntWalk.i64_in _ (by omega)
      clear s0 s1 hx hs HM
      have KD : Hd (∀ n, Keeps (fun _ => False) w (wr.drewN n)) := hid (fun n => KR.out.drewN n)
      go_upto_region 5 with fail
      go_quiet (fail)
      go_wp2
      clear w1 w2
      go_roundw
      case rel => exact ⟨k + 1, by go_num, by omega, by rw [HSX.out], hid (by rw [HSX.out]; omega), hid (by first | exact KD.out _ | exact KR.out.drew | exact KR.out)⟩
      case measure => simp [intOf]; omega
    · obtain rfl : k = m := by omega
      have k0 : ¬ ((k : Int) < k) := by omega
      have HT : Hd (missL (l.take k) = missL l) := hid (by rw [List.take_of_length_le (by rw [HLN.out]; omega)])
      go_wp2
      go_ret
      exact ⟨ret_int HT.out, KR.out⟩
end Go.Proofs.YtgeicbjlichdgaaDoor
