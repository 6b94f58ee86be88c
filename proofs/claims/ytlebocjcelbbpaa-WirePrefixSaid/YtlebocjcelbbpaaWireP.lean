/- The walks of WireWrites and WirePrefix. -/
import Derived.Test.YtlebocjcelbbpaaWireO
namespace Go.Proofs.Ytlebocjcelbbpaa
open Go.RowKit

set_option maxRecDepth 100000 in set_option maxHeartbeats 1000000 in
theorem wireWrites_any (v : Value) (l : List It) (w : World) (hv : Its (fun b => b < w.heap.size) w v l) (hok : ∀ x ∈ l, x.ok) (hw : wts l ≤ 1000000000) :
    Calls Try.prog 4 #[v] w fun e w' => e = .returned (.bool true) ∧ Keeps (fun _ => False) w w' := by
  have HV := hid hv; have HOK := hid hok; have HW := hid hw
  obtain ⟨a, cap, rfl, hx⟩ := hv.form
  clear hx hv hok hw
  generalize hln : l.length = n at *
  go_enter Try.func4, Try.ntmps4
  clear hln
  go_wp2_with fail
  refine (written_any _ _ l _ HV.out (fun _ h => h) HOK.out (by have := HW.out; omega)).mono ?_
  rintro e w1 ⟨a1, n1, c1, rfl, hn, ho, hk⟩
  have H1 : Hd (Sl (fun b => w.heap.size ≤ b) w1 (.slice a1 n1 c1) (u8s (encAll l))) := hid (row_sl ho.row hn.symm)
  have K1 := hid hk; have V1 := hid (HV.out.keep hk (fun _ _ _ h => h))
  clear hn ho hk
  go_wp2_with fail
  refine (encoded_any _ _ l _ V1.out HOK.out (by have := HW.out; omega)).mono ?_
  rintro e w2 ⟨a2, n2, c2, rfl, hn, ho, hk⟩
  have H2 : Hd (Sl (fun b => w1.heap.size ≤ b) w2 (.slice a2 n2 c2) (u8s (encAll l))) := hid (row_sl ho.row hn.symm)
  have K2 := hid (K1.out.trans hk); have H1' := hid (H1.out.keep hk (fun _ _ _ h => h))
  clear hn ho hk
  have hle : Hd ((encAll l).length ≤ 1000000000) := hid (by have := encAll_len (l := l) HOK.out (by have := HW.out; omega); have := HW.out; omega)
  go_wp2_with fail
  refine (SameBytes_any _ _ _ _ _ _ _ H1'.out H2.out hle.out).mono ?_
  rintro e w3 ⟨rfl, hd⟩
  have K3 := hid (K2.out.trans (drawn_keeps _ hd)); clear hd
  rw [decide_eq_true rfl]
  go_wp2_with fail
  refine (lives_any _).mono ?_
  rintro e w4 ⟨rfl, hk⟩
  have K4 := hid (K3.out.trans hk); clear hk
  go_wp2
  go_ret
  exact ⟨rfl, K4.out⟩

/-- whether neither is a prefix of the other, or both are equal -/
def apartB (x y : List Nat) (eq : Bool) : Bool := if eq then decide (x = y) else !decide (x.take (min x.length y.length) = y.take (min x.length y.length))
theorem take_eq_iff (x y : List Nat) (h : x.length = y.length) : (x.take (min x.length y.length) = y.take (min x.length y.length)) ↔ x = y := by
  rw [show min x.length y.length = x.length by omega, List.take_length, h, List.take_length]

set_option maxRecDepth 100000 in set_option maxHeartbeats 1000000 in
theorem apart_any (K1 K2 : Nat → Prop) (v1 v2 : Value) (x y : List Nat) (eq : Bool) (w : World) (h1 : Sl K1 w v1 (u8s x)) (h2 : Sl K2 w v2 (u8s y)) (hm : x.length ≤ 1000000000) (hm2 : y.length ≤ 1000000000) :
    Calls Try.prog 25 #[v1, v2, .bool eq] w fun e w' => e = .returned (.bool (apartB x y eq)) ∧ Keeps (fun _ => False) w w' := by
  obtain ⟨i0, hi, hz0, hz1, hz2⟩ := info_parts infoU8
  have H1 := hid h1; have H2 := hid h2
  obtain ⟨a1, c1, rfl, hc1, hc1m, _⟩ := h1.bytes
  obtain ⟨a2, c2, rfl, hc2, hc2m, _⟩ := h2.bytes
  clear h1 h2
  obtain ⟨b1, d1, hcut1, hr1⟩ := run_cut_to (P := Try.prog) (t := 22) Try.underlying22 hi hz1 (sl_row H1.out (u8s_length x)) (hh := ((min x.length y.length : Nat) : Int)) (min x.length y.length) rfl (by omega)
  obtain ⟨b2, d2, hcut2, hr2⟩ := run_cut_to (P := Try.prog) (t := 22) Try.underlying22 hi hz1 (sl_row H2.out (u8s_length y)) (hh := ((min x.length y.length : Nat) : Int)) (min x.length y.length) rfl (by omega)
  have R1 : Hd (Sl K1 w (.slice b1 (min x.length y.length) d1) (u8s (x.take (min x.length y.length)))) := hid (by
    rw [show (u8s x).take (min x.length y.length * 1) = u8s (x.take (min x.length y.length)) by simp [u8s, List.map_take]] at hr1
    exact row_sl hr1 (by simp))
  have R2 : Hd (Sl K2 w (.slice b2 (min x.length y.length) d2) (u8s (y.take (min x.length y.length)))) := hid (by
    rw [show (u8s y).take (min x.length y.length * 1) = u8s (y.take (min x.length y.length)) by simp [u8s, List.map_take]] at hr2
    exact row_sl hr2 (by simp))
  have hF : apartB x y eq = if eq then (decide (x.take (min x.length y.length) = y.take (min x.length y.length)) && decide (x.length = y.length)) else !decide (x.take (min x.length y.length) = y.take (min x.length y.length)) := by
    unfold apartB
    cases eq
    · rfl
    · by_cases h : x.length = y.length
      · simp only [if_true, h, decide_true, Bool.and_true]
        have := take_eq_iff x y h
        rw [h] at this
        rw [decide_eq_decide]; exact this.symm
      · have : x ≠ y := fun e => h (by rw [e])
        simp [h, this]
  rw [hF]
  clear hF hr1 hr2
  generalize hmn : min x.length y.length = m at *
  have HS : Hd (∀ W : World, Keeps (fun _ => False) w W → Calls Try.prog 22 #[.slice b1 m d1, .slice b2 m d2] W fun e w' => e = .returned (.bool (decide (x.take m = y.take m))) ∧ Drawn W w') :=
    hid (fun W hk => SameBytes_any K1 K2 _ _ _ _ W (R1.out.keep hk (fun _ _ _ h => h)) (R2.out.keep hk (fun _ _ _ h => h)) (by simp; omega))
  clear R1 R2
  generalize decide (x.take m = y.take m) = bg at *
  have hxm : m ≤ x.length := by omega
  by_cases hlt : y.length < x.length
  · have hm3 : y.length = m := by omega
    have hne : decide (x.length = y.length) = false := by simp; omega
    have hne2 : ((x.length : Int) == (y.length : Int)) = false := by simp; omega
    rw [hne]
    rw [← hm3] at hcut1 hcut2 HS
    clear hm3 hmn hne
    generalize x.length = n1 at *
    generalize y.length = n2 at *
    have hlt1 : (n2 : Int) < n1 := by omega
    go_enter Try.func25, Try.ntmps25
    go_wp2
    refine wp_region_ext (by kernel_rfl) (by kernel_rfl) ?_
    repeat (go_big_quiet_step ((go_at_call 22; exact ext_drawn (HS.out _ (Ext.k _)))))
    refine wpQuiet_nil ?_
    rintro _ ⟨z, rfl⟩
    cases eq
    · go_wp2
      go_ret
      exact ⟨rfl, z.k⟩
    · cases bg
      all_goals
        go_wp2
        go_ret
        exact ⟨rfl, z.k⟩
  · have hm3 : x.length = m := by omega
    rw [← hm3] at hcut1 hcut2 HS
    have hle : x.length ≤ y.length := by omega
    clear hm3 hmn
    generalize x.length = n1 at *
    generalize y.length = n2 at *
    have hlt1 : (n1 : Int) ≤ n2 := by omega
    have hdec : decide (n1 = n2) = ((n1 : Int) == (n2 : Int)) := by by_cases h : n1 = n2 <;> simp [h]; omega
    rw [hdec]
    clear hdec hlt
    go_enter Try.func25, Try.ntmps25
    go_wp2
    refine wp_region_ext (by kernel_rfl) (by kernel_rfl) ?_
    repeat (go_big_quiet_step ((go_at_call 22; exact ext_drawn (HS.out _ (Ext.k _)))))
    refine wpQuiet_nil ?_
    rintro _ ⟨z, rfl⟩
    cases eq
    · go_wp2
      go_ret
      exact ⟨rfl, z.k⟩
    · cases bg
      all_goals
        go_wp2
        go_ret
        exact ⟨rfl, z.k⟩
end Go.Proofs.Ytlebocjcelbbpaa
