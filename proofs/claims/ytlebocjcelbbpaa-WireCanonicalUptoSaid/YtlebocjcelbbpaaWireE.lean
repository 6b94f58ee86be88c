/- The walks of the reference's encoders (package perigeeref02). -/
import Derived.Test.YtlebocjcelbbpaaWireB
namespace Go.Proofs.Ytlebocjcelbbpaa
open Go.RowKit

set_option maxRecDepth 100000 in set_option maxHeartbeats 400000 in
theorem EUint_any (n : Nat) (w : World) (hn : n ≤ 18446744073709551615) :
    Calls Try.prog 43 #[.int .u64 n] w fun e w' => NewRet w 5 (u8s (enc n)) e w' := by
  obtain ⟨i0, hi, hz0, hz1, hz2⟩ := info_parts infoU8
  have HN := hid hn; clear hn
  go_enter Try.func43, Try.ntmps43
  go_wp2
  go_loopw [0, 3] (fun i o wr => ∃ (k : Nat) (a : Option Addr) (m c : Nat) (pre : List Nat), i = .int .u64 k ∧ o = .slice a m c ∧ m ≤ 10 ∧ Hd (k ≤ 18446744073709551615) ∧ Hd (m = pre.length) ∧ Hd (enc n = pre ++ enc k)
      ∧ Hd (Own (fun b => w.heap.size ≤ b) wr 5 1 (.slice a m c) m (u8s pre)) ∧ Hd (Keeps (fun _ => False) w wr)) (fun i _ _ => (intOf i).toNat)
  case atStart => exact ⟨n, none, 0, 0, [], rfl, rfl, by omega, HN, hid rfl, hid rfl, hid (Own.nil _ _ _ _), hid (Keeps.refl _ _)⟩
  case round =>
    obtain ⟨k, a, m, c, pre, rfl, rfl, hm, hkN, hml, hpre, hown, hkeep⟩ := hrel
    have hd : IntKind.u64.wrap ((k : Int) / 128) = (k : Int) / 128 := by rw [wrap_u64]; have := hkN.out; omega
    have hsz := hkeep.out.size
    have hlen : Hd (m + 1 ≤ 10) := hid (by
      have h1 := congrArg List.length hpre.out
      have h2 := enc_len10 HN.out
      have h3 := enc_pos k
      have h4 := hml.out
      simp at h1; omega)
    by_cases hlt : 127 < k
    · go_wp2_with (at_builtin; refine wpList_append_row rfl _ _ 22 rfl 5 i0 (.int .u8 0) 1 1 Try.underlying22 hi hz0 hz1 hz2 rfl (by decide) _ (fun _ => True) _ _ _ _ rfl (hown.out.alloc _) 1 _ rfl (src_one _ _ trivial) (by intro u hu; simp at hu; subst hu; rfl) ?h1 ?h2 ?_)
      case h1 => simp [maxLen]; omega
      case h2 => omega
      intro a1 cap1 w1 hown' hgrow; try intro _
      have H5 := hid hown'
      have HK5 : Hd (Keeps (fun b => w.heap.size ≤ b) wr w1) := hid ((keeps_alloc _ wr _).trans hgrow)
      clear hown' hgrow
      go_wp2
      go_roundw
      case rel =>
        refine ⟨k / 128, a1, m + 1, cap1, pre ++ [k % 128 + 128], by go_num, rfl, by have := hlen.out; omega, hid (by have := hkN.out; omega), hid (by simp [hml.out]), hid (by rw [hpre.out, enc_big (by omega)]; simp), hid ?_, hid (hkeep.out.after HK5.out)⟩
        have := H5.out.mono (K' := fun b => w.heap.size ≤ b) (fun b _ hb => by rcases hb with hb | hb <;> omega)
        simpa [u8s] using this
      case measure => simp [intOf]; omega
    · go_wp2_with (at_builtin; refine wpList_append_row rfl _ _ 22 rfl 5 i0 (.int .u8 0) 1 1 Try.underlying22 hi hz0 hz1 hz2 rfl (by decide) _ (fun _ => True) _ _ _ _ rfl (hown.out.alloc _) 1 _ rfl (src_one _ _ trivial) (by intro u hu; simp at hu; subst hu; rfl) ?h1 ?h2 ?_)
      case h1 => simp [maxLen]; omega
      case h2 => omega
      intro a1 cap1 w1 hown' hgrow; try intro _
      have H5 := hid hown'
      have HK5 : Hd (Keeps (fun b => w.heap.size ≤ b) wr w1) := hid ((keeps_alloc _ wr _).trans hgrow)
      clear hown' hgrow
      have HE : Hd (enc n = pre ++ [k]) := hid (by rw [hpre.out, enc_small (by omega)])
      go_wp2
      go_ret
      refine ⟨a1, m + 1, cap1, rfl, by rw [HE.out]; simp [hml.out], ?_, hkeep.out.after HK5.out⟩
      have := H5.out.mono (K' := fun b => w.heap.size ≤ b) (fun b _ hb => by rcases hb with hb | hb <;> omega)
      rw [HE.out]
      simpa [u8s] using this
set_option maxRecDepth 100000 in set_option maxHeartbeats 400000 in
theorem EZig_any (n : Int) (w : World) (h1 : -9223372036854775808 ≤ n) (h2 : n ≤ 9223372036854775807) :
    Calls Try.prog 50 #[.int .i64 n] w fun e w' => e = .returned (.int .u64 (zig n : Nat)) ∧ w = w' := by
  have H1 := hid h1; have H2 := hid h2; clear h1 h2
  by_cases h : 0 ≤ n
  · have HZ : Hd (((zig n : Nat) : Int) = IntKind.u64.wrap (2 * IntKind.u64.wrap n)) := hid (by have := H1.out; have := H2.out; simp only [zig, if_pos h, wrap_u64]; omega)
    go_enter Try.func50, Try.ntmps50
    go_wp2
    go_ret
    exact ⟨ret_int HZ.out.symm, rfl⟩
  · have hlt : n < 0 := by omega
    have HZ : Hd (((zig n : Nat) : Int) = IntKind.u64.wrap (IntKind.u64.wrap (2 * IntKind.u64.wrap (wrap64 (-(wrap64 (n + 1))))) + 1)) := hid (by have := H1.out; have := H2.out; simp only [zig, if_neg h, wrap_u64]; unfold wrap64; omega)
    clear h
    go_enter Try.func50, Try.ntmps50
    go_wp2
    go_ret
    exact ⟨ret_int HZ.out.symm, rfl⟩

set_option maxRecDepth 100000 in set_option maxHeartbeats 400000 in
theorem EInt_any (n : Int) (w : World) (h1 : -9223372036854775808 ≤ n) (h2 : n ≤ 9223372036854775807) :
    Calls Try.prog 44 #[.int .i64 n] w fun e w' => NewRet w 5 (u8s (encI n)) e w' := by
  have H1 := hid h1; have H2 := hid h2; clear h1 h2
  go_enter Try.func44, Try.ntmps44
  go_wp2_with fail
  refine (EZig_any n _ H1.out H2.out).mono ?_
  rintro e w1 ⟨rfl, rfl⟩
  go_wp2_with fail
  refine (EUint_any (zig n) _ (zig_le H1.out H2.out)).mono ?_
  rintro e w1 ⟨a, m, c, rfl, h⟩
  replace h := hid h
  go_wp2
  go_ret
  exact ⟨a, m, c, rfl, h.out⟩

set_option maxRecDepth 100000 in set_option maxHeartbeats 400000 in
theorem EBytes_any (K : Nat → Prop) (v : Value) (b : List Nat) (w : World) (hv : Sl K w v (u8s b)) (hm : b.length ≤ 1000000000000) :
    Calls Try.prog 45 #[v] w fun e w' => NewRet w 5 (u8s (encB b)) e w' := by
  obtain ⟨i0, hi, hz0, hz1, hz2⟩ := info_parts infoU8
  have hv0 := hid hv
  obtain ⟨a, cap, rfl, hc1, hc2, _⟩ := hv.bytes
  clear hv
  generalize hbl : b.length = n at *
  have HBL := hid hbl; clear hbl
  go_enter Try.func45, Try.ntmps45
  go_wp2_with fail
  refine (EUint_any n _ (by omega)).mono ?_
  rintro e w1 ⟨a1, n1, c1, rfl, hn1, ho, hk⟩
  have hl := enc_len10 (n := n) (by omega)
  have hnb : n1 ≤ 10 := by rw [hn1]; simpa using hl
  have HN1 := hid hn1; have HO := hid ho; have HK := hid hk
  clear hn1 ho hk hl
  have HS := hid (hv0.out.keep HK.out (fun _ _ _ h => h))
  go_wp2_with (at_builtin; refine wpList_append_row rfl _ _ 22 rfl 5 i0 (.int .u8 0) 1 1 Try.underlying22 hi hz0 hz1 hz2 rfl (by decide) _ K _ _ _ _ rfl HO.out n _ rfl (sl_row HS.out (by simp [HBL.out])) (u8s_one _) ?h1 ?h2 ?_)
  case h1 => simp [maxLen]; omega
  case h2 => omega
  intro a2 cap2 w2 hown' hgrow; try intro _
  have H5 := hid hown'; have H6 := hid hgrow; clear hown' hgrow
  go_wp2
  go_ret
  refine ⟨a2, n1 + n, cap2, rfl, ?_, ?_, HK.out.after H6.out⟩
  · rw [HN1.out]; simp [encB, HBL.out]
  · have := H5.out.mono (K' := fun b => w.heap.size ≤ b) (fun b _ hb => by have := HK.out.size; rcases hb with hb | hb <;> omega)
    rw [← u8s_append] at this
    rw [encB, HBL.out]; exact this

set_option maxRecDepth 100000 in set_option maxHeartbeats 1000000 in
theorem EInts_any (K : Nat → Prop) (v : Value) (l : List Int) (w : World) (hv : Sl K w v (i64s l)) (hm : l.length ≤ 100000000000) (hr : ∀ n ∈ l, -9223372036854775808 ≤ n ∧ n ≤ 9223372036854775807) :
    Calls Try.prog 46 #[v] w fun e w' => NewRet w 5 (u8s (encL l)) e w' := by
  obtain ⟨i0, hi, hz0, hz1, hz2⟩ := info_parts infoU8
  have hv0 : Hd (Sl (fun b => K b ∧ b < w.heap.size) w v (i64s l)) := hid (hv.mono (fun b hb h => ⟨h, hb⟩))
  obtain ⟨a, cap, rfl, hc1, hc2, hv1⟩ := hv0.out.ints
  have HV := hid hv1; have HR := hid hr
  clear hv hv1 hr
  generalize hbl : l.length = n at *
  have HBL := hid hbl; clear hbl
  go_enter Try.func46, Try.ntmps46
  go_wp2_with fail
  refine (EUint_any n _ (by omega)).mono ?_
  rintro e w1 ⟨a1, n1, c1, rfl, hn1, ho, hk⟩
  have hl := enc_len10 (n := n) (by omega)
  have HL := hid hl
  have HN1 := hid hn1; have HO := hid ho; have HK := hid hk
  clear hn1 ho hk hl
  go_wp2
  go_loopw [3, 4] (fun o i wr => ∃ (k : Nat) (a : Option Addr) (m c : Nat), i = .int .i64 k ∧ o = .slice a m c ∧ k ≤ n ∧ Hd (m = (enc n ++ (l.take k).flatMap encI).length)
      ∧ Hd (Own (fun b => w.heap.size ≤ b) wr 5 1 (.slice a m c) m (u8s (enc n ++ (l.take k).flatMap encI))) ∧ Hd (Keeps (fun _ => False) w wr)) (fun _ i _ => n - (intOf i).toNat)
  case atStart => exact ⟨0, a1, n1, c1, rfl, rfl, by omega, hid (by rw [HN1.out]; simp), by simpa using HO, HK⟩
  case round =>
    obtain ⟨k, a2, m, c2, rfl, rfl, hk, hml, hown, hkeep⟩ := hrel
    have hsz := hkeep.out.size
    by_cases hlt : k < n
    · obtain ⟨b1, o1, rfl, hKb, hb1, d1⟩ := HV.out (by omega)
      have e1 : wr.cell? ⟨b1, o1 + k, none⟩ = some (.int .i64 (l.getD k 0)) := keep_cell hkeep.out (fun h => h) (d1 k hlt)
      clear d1 hb1 hKb
      have hk0 : (0 : Int) ≤ (k : Int) := by omega
      have hk1 : (k : Int) < n := by omega
      have hmem : l.getD k 0 ∈ l := by simp [List.getD, HBL.out, hlt]
      have hstep : (l.take k).flatMap encI ++ encI (l.getD k 0) = (l.take (k + 1)).flatMap encI := by
        rw [List.take_succ_eq_append_getElem (by rw [HBL.out]; exact hlt), List.flatMap_append, List.flatMap_singleton]
        simp [List.getD, HBL.out, hlt]
      have hle : m ≤ 10 + 10 * n := by
        have h1 := flatMap_len (l.take k) (fun x hx => HR.out x (List.mem_of_mem_take hx))
        have h2 := HL.out
        have h4 : (l.take k).length ≤ k := List.length_take_le _ _
        rw [hml.out]
        simp only [List.length_append] at *
        omega
      generalize hx : l.getD k 0 = x at *
      have HX := hid hx; clear hx
      have HM1 := hid hmem; have HS := hid hstep; clear hmem hstep
      go_wp2_with fail
      refine (EInt_any x _ (HR.out x HM1.out).1 (HR.out x HM1.out).2).mono ?_
      rintro e w3 ⟨a3, n3, c3, rfl, hn3, ho3, hk3⟩
      have hnb : n3 ≤ 10 := by rw [hn3, u8s_length]; exact enc_len10 (zig_le (HR.out x HM1.out).1 (HR.out x HM1.out).2)
      have HN3 := hid hn3; have HO3 := hid ho3; have HK3 := hid hk3; clear hn3 ho3 hk3
      have HW3 := hid (hown.out.keep HK3.out (fun _ _ _ h => h))
      go_wp2_with (at_builtin; refine wpList_append_row rfl _ _ 22 rfl 5 i0 (.int .u8 0) 1 1 Try.underlying22 hi hz0 hz1 hz2 rfl (by decide) _ (fun k => wr.heap.size ≤ k) _ _ _ _ rfl HW3.out n3 _ rfl HO3.out.row (u8s_one _) ?h1 ?h2 ?_)
      case h1 => simp [maxLen]; omega
      case h2 => omega
      intro a4 cap4 w4 hown' hgrow; try intro _
      have H5 := hid hown'; have H6 := hid hgrow; clear hown' hgrow
      go_wp2
      go_roundw
      case rel =>
        refine ⟨k + 1, a4, m + n3, cap4, by go_num, rfl, by omega, hid ?_, hid ?_, hid ((hkeep.out.trans HK3.out).after H6.out)⟩
        · rw [← HS.out, ← List.append_assoc, List.length_append, ← hml.out, HN3.out]; simp
        · have := H5.out.mono (K' := fun b => w.heap.size ≤ b) (fun b _ hb => by have := HK3.out.size; rcases hb with hb | hb <;> omega)
          rw [← u8s_append, List.append_assoc, HS.out] at this
          exact this
      case measure => simp [intOf]; omega
    · obtain rfl : k = n := by omega
      go_wp2
      go_ret
      have ht : l.take k = l := List.take_of_length_le (by rw [HBL.out]; exact Nat.le_refl _)
      have h1 := hml.out; have h2 := hown.out
      rw [ht] at h1 h2
      refine ⟨a2, m, c2, rfl, ?_, ?_, hkeep.out⟩
      · rw [h1]; simp [encL, HBL.out]
      · rw [encL, HBL.out]; exact h2
end Go.Proofs.Ytlebocjcelbbpaa
