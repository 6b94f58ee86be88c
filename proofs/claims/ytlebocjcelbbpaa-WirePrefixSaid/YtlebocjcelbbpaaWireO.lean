/- The walk of the wire laws' helper 'encoded'. -/
import Derived.Test.YtlebocjcelbbpaaWireN
namespace Go.Proofs.Ytlebocjcelbbpaa
open Go.RowKit

set_option maxRecDepth 100000 in set_option maxHeartbeats 1000000 in
theorem encoded_any (K : Nat → Prop) (v : Value) (l : List It) (w : World) (hv : Its K w v l) (hok : ∀ x ∈ l, x.ok) (hw : wts l ≤ 100000000000) :
    Calls Try.prog 24 #[v] w fun e w' => NewRet w 5 (u8s (encAll l)) e w' := by
  obtain ⟨i0, hi, hz0, hz1, hz2⟩ := info_parts infoU8
  have HV := hid hv; have HOK := hid hok; have HW := hid hw
  obtain ⟨a, cap, rfl, hx⟩ := hv.form
  clear hx hv hok hw
  generalize hln : l.length = n at *
  have hnb : n ≤ 100000000000 := by have := wts_len l; have := HW.out; omega
  have HLN := hid hln; clear hln
  go_enter Try.func24, Try.ntmps24
  go_wp2
  go_loopw [3, 4] (fun o i wr => ∃ (k : Nat) (a : Option Addr) (m c : Nat), i = .int .i64 k ∧ o = .slice a m c ∧ k ≤ n ∧ m ≤ 100000000000 ∧ Hd (m = (encAll (l.take k)).length) ∧ Hd (Own (fun b => w.heap.size ≤ b) wr 5 1 (.slice a m c) m (u8s (encAll (l.take k)))) ∧ Hd (Keeps (fun _ => False) w wr)) (fun _ i _ => n - (intOf i).toNat)
  case atStart => exact ⟨0, none, 0, 0, rfl, rfl, by omega, by omega, hid rfl, hid (Own.nil _ _ _ _), hid (Keeps.refl _ _)⟩
  case round =>
    obtain ⟨k, ao, m, c, rfl, rfl, hk, hm, hml, hown, hkeep⟩ := hrel
    by_cases hlt : k < n
    · have hkl : k < l.length := by rw [HLN.out]; exact hlt
      obtain ⟨a', cap', hva, hcells⟩ := (HV.out.keep hkeep.out (fun _ _ _ h => h)).form
      obtain ⟨b1, o1, vb, vl, ha, hKb, e0, e1, e2, e3, e4, _, hb, hl⟩ := hcells k hkl
      injection hva with hva1 hva2 hva3
      clear hva2 hva3
      subst hva1
      subst ha
      have hstep : Hd (encAll (l.take (k + 1)) = encAll (l.take k) ++ encIt l[k]) := hid (encAll_take_succ hkl)
      have hokx : Hd (l[k]).ok := hid (HOK.out _ (List.getElem_mem hkl))
      have hwx : Hd ((encAll (l.take k)).length + (l[k]).wt ≤ 100000000000) := hid (by
        have h1 := encAll_len (l := l.take k) (fun x hx => HOK.out x (List.mem_of_mem_take hx)) (by have := wts_take l k; have := HW.out; omega)
        have h2 := wts_take_succ hkl
        have h3 := HW.out
        omega)
      have hmw : Hd (m = (encAll (l.take k)).length) := hml
      have HB := hid hb; have HL := hid hl
      clear hcells hb hl
      generalize l[k] = x at *
      have hk1 : (k : Int) < n := by omega
      have hk2 : (0 : Int) ≤ (k : Int) := by omega
      by_cases h0 : x.kind = 0
      · have t0 : (x.kind == 0) = true := by simp; exact h0
        have hE : Hd (encIt x = enc x.u) := hid (by unfold encIt; rw [if_pos h0])
        clear h0
        go_wp2_with fail
        refine (EUint_any x.u _ hokx.out.2.1).mono ?_
        rintro e w3 ⟨a3, n3, c3, rfl, hn3, ho3, hk3⟩
        have HN3 := hid hn3; have HO3 := hid ho3; have HK3 := hid hk3; clear hn3 ho3 hk3
        have hn3b : n3 ≤ 1000000000000 := by rw [HN3.out, u8s_length]; have h1 := hwx.out; have h2 := encIt_len hokx.out (by omega); rw [hE.out] at h2; omega
        have HW3 := hid (hown.out.keep HK3.out (fun _ _ _ h => h))
        go_wp2_with (at_builtin; refine wpList_append_row rfl _ _ 22 rfl 5 i0 (.int .u8 0) 1 1 Try.underlying22 hi hz0 hz1 hz2 rfl (by decide) _ (fun k => wr.heap.size ≤ k) _ _ _ _ rfl HW3.out n3 _ rfl HO3.out.row (u8s_one _) ?h1 ?h2 ?_)
        case h1 => simp [maxLen]; omega
        case h2 => omega
        intro a4 cap4 w4 hown' hgrow; try intro _
        have H5 := hid hown'; have H6 := hid hgrow; clear hown' hgrow
        go_wp2
        go_roundw
        case rel =>
          refine ⟨k + 1, a4, m + n3, cap4, by go_num, rfl, by omega, by have h1 := hwx.out; have h2 := hmw.out; have h3 := encIt_len hokx.out (by omega); rw [hE.out] at h3; have h4 := HN3.out; rw [u8s_length] at h4; omega, hid ?_, hid ?_, hid ((hkeep.out.trans HK3.out).after H6.out)⟩
          · rw [hstep.out, hE.out, List.length_append, ← hml.out, HN3.out]; simp
          · have := H5.out.mono (K' := fun b => w.heap.size ≤ b) (fun b _ hb => by have := HK3.out.size; have := hkeep.out.size; rcases hb with hb | hb <;> omega)
            rw [← u8s_append, ← hE.out, ← hstep.out] at this
            exact this
        case measure => simp [intOf]; omega
      · by_cases h1 : x.kind = 1
        · have t0 : (x.kind == 0) = false := by simp; exact h0
          have t1 : (x.kind == 1) = true := by simp; exact h1
          have hE : Hd (encIt x = encI x.n) := hid (by unfold encIt; rw [if_neg h0, if_pos h1])
          clear h0 h1
          go_wp2_with fail
          refine (EInt_any x.n _ hokx.out.2.2.1.1 hokx.out.2.2.1.2).mono ?_
          rintro e w3 ⟨a3, n3, c3, rfl, hn3, ho3, hk3⟩
          have HN3 := hid hn3; have HO3 := hid ho3; have HK3 := hid hk3; clear hn3 ho3 hk3
          have hn3b : n3 ≤ 1000000000000 := by rw [HN3.out, u8s_length]; have h1 := hwx.out; have h2 := encIt_len hokx.out (by omega); rw [hE.out] at h2; omega
          have HW3 := hid (hown.out.keep HK3.out (fun _ _ _ h => h))
          go_wp2_with (at_builtin; refine wpList_append_row rfl _ _ 22 rfl 5 i0 (.int .u8 0) 1 1 Try.underlying22 hi hz0 hz1 hz2 rfl (by decide) _ (fun k => wr.heap.size ≤ k) _ _ _ _ rfl HW3.out n3 _ rfl HO3.out.row (u8s_one _) ?h1 ?h2 ?_)
          case h1 => simp [maxLen]; omega
          case h2 => omega
          intro a4 cap4 w4 hown' hgrow; try intro _
          have H5 := hid hown'; have H6 := hid hgrow; clear hown' hgrow
          go_wp2
          go_roundw
          case rel =>
            refine ⟨k + 1, a4, m + n3, cap4, by go_num, rfl, by omega, by have h1 := hwx.out; have h2 := hmw.out; have h3 := encIt_len hokx.out (by omega); rw [hE.out] at h3; have h4 := HN3.out; rw [u8s_length] at h4; omega, hid ?_, hid ?_, hid ((hkeep.out.trans HK3.out).after H6.out)⟩
            · rw [hstep.out, hE.out, List.length_append, ← hml.out, HN3.out]; simp
            · have := H5.out.mono (K' := fun b => w.heap.size ≤ b) (fun b _ hb => by have := HK3.out.size; have := hkeep.out.size; rcases hb with hb | hb <;> omega)
              rw [← u8s_append, ← hE.out, ← hstep.out] at this
              exact this
          case measure => simp [intOf]; omega
        · by_cases h2 : x.kind = 2
          · have t0 : (x.kind == 0) = false := by simp; exact h0
            have t1 : (x.kind == 1) = false := by simp; exact h1
            have t2 : (x.kind == 2) = true := by simp; exact h2
            have hE : Hd (encIt x = encB x.b) := hid (by unfold encIt; rw [if_neg h0, if_neg h1, if_pos h2])
            obtain ⟨ab, cb, rfl, _, _, hx2⟩ := HB.out.bytes
            clear h0 h1 h2 hx2
            go_wp2_with fail
            refine (EBytes_any K _ x.b _ HB.out (by have := hwx.out; unfold It.wt at this; omega)).mono ?_
            rintro e w3 ⟨a3, n3, c3, rfl, hn3, ho3, hk3⟩
            have HN3 := hid hn3; have HO3 := hid ho3; have HK3 := hid hk3; clear hn3 ho3 hk3
            have hn3b : n3 ≤ 1000000000000 := by rw [HN3.out, u8s_length]; have h1 := hwx.out; have h2 := encIt_len hokx.out (by omega); rw [hE.out] at h2; omega
            have HW3 := hid (hown.out.keep HK3.out (fun _ _ _ h => h))
            go_wp2_with (at_builtin; refine wpList_append_row rfl _ _ 22 rfl 5 i0 (.int .u8 0) 1 1 Try.underlying22 hi hz0 hz1 hz2 rfl (by decide) _ (fun k => wr.heap.size ≤ k) _ _ _ _ rfl HW3.out n3 _ rfl HO3.out.row (u8s_one _) ?h1 ?h2 ?_)
            case h1 => simp [maxLen]; omega
            case h2 => omega
            intro a4 cap4 w4 hown' hgrow; try intro _
            have H5 := hid hown'; have H6 := hid hgrow; clear hown' hgrow
            go_wp2
            go_roundw
            case rel =>
              refine ⟨k + 1, a4, m + n3, cap4, by go_num, rfl, by omega, by have h1 := hwx.out; have h2 := hmw.out; have h3 := encIt_len hokx.out (by omega); rw [hE.out] at h3; have h4 := HN3.out; rw [u8s_length] at h4; omega, hid ?_, hid ?_, hid ((hkeep.out.trans HK3.out).after H6.out)⟩
              · rw [hstep.out, hE.out, List.length_append, ← hml.out, HN3.out]; simp
              · have := H5.out.mono (K' := fun b => w.heap.size ≤ b) (fun b _ hb => by have := HK3.out.size; have := hkeep.out.size; rcases hb with hb | hb <;> omega)
                rw [← u8s_append, ← hE.out, ← hstep.out] at this
                exact this
            case measure => simp [intOf]; omega
          · have t0 : (x.kind == 0) = false := by simp; exact h0
            have t1 : (x.kind == 1) = false := by simp; exact h1
            have t2 : (x.kind == 2) = false := by simp; exact h2
            have hE : Hd (encIt x = encL x.l) := hid (by unfold encIt; rw [if_neg h0, if_neg h1, if_neg h2])
            obtain ⟨ab, cb, rfl, _, _, hx2⟩ := HL.out.ints
            clear h0 h1 h2 hx2
            go_wp2_with fail
            refine (EInts_any K _ x.l _ HL.out (by have := hwx.out; unfold It.wt at this; omega) hokx.out.2.2.2.2.1).mono ?_
            rintro e w3 ⟨a3, n3, c3, rfl, hn3, ho3, hk3⟩
            have HN3 := hid hn3; have HO3 := hid ho3; have HK3 := hid hk3; clear hn3 ho3 hk3
            have hn3b : n3 ≤ 1000000000000 := by rw [HN3.out, u8s_length]; have h1 := hwx.out; have h2 := encIt_len hokx.out (by omega); rw [hE.out] at h2; omega
            have HW3 := hid (hown.out.keep HK3.out (fun _ _ _ h => h))
            go_wp2_with (at_builtin; refine wpList_append_row rfl _ _ 22 rfl 5 i0 (.int .u8 0) 1 1 Try.underlying22 hi hz0 hz1 hz2 rfl (by decide) _ (fun k => wr.heap.size ≤ k) _ _ _ _ rfl HW3.out n3 _ rfl HO3.out.row (u8s_one _) ?h1 ?h2 ?_)
            case h1 => simp [maxLen]; omega
            case h2 => omega
            intro a4 cap4 w4 hown' hgrow; try intro _
            have H5 := hid hown'; have H6 := hid hgrow; clear hown' hgrow
            go_wp2
            go_roundw
            case rel =>
              refine ⟨k + 1, a4, m + n3, cap4, by go_num, rfl, by omega, by have h1 := hwx.out; have h2 := hmw.out; have h3 := encIt_len hokx.out (by omega); rw [hE.out] at h3; have h4 := HN3.out; rw [u8s_length] at h4; omega, hid ?_, hid ?_, hid ((hkeep.out.trans HK3.out).after H6.out)⟩
              · rw [hstep.out, hE.out, List.length_append, ← hml.out, HN3.out]; simp
              · have := H5.out.mono (K' := fun b => w.heap.size ≤ b) (fun b _ hb => by have := HK3.out.size; have := hkeep.out.size; rcases hb with hb | hb <;> omega)
                rw [← u8s_append, ← hE.out, ← hstep.out] at this
                exact this
            case measure => simp [intOf]; omega
    · obtain rfl : k = n := by omega
      have ht : l.take k = l := List.take_of_length_le (by rw [HLN.out]; exact Nat.le_refl _)
      rw [ht] at hml hown
      go_wp2
      go_ret
      exact ⟨ao, m, c, rfl, by rw [hml.out]; simp, hown.out, hkeep.out⟩
end Go.Proofs.Ytlebocjcelbbpaa
