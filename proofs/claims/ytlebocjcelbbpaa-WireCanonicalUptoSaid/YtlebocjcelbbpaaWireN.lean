/- The walks of the wire laws' helpers: written, encoded. -/
import Derived.Test.YtlebocjcelbbpaaItem
namespace Go.Proofs.Ytlebocjcelbbpaa
open Go.RowKit

set_option maxRecDepth 100000 in set_option maxHeartbeats 1000000 in
theorem written_any (K : Nat → Prop) (v : Value) (l : List It) (w : World) (hv : Its K w v l) (hK : ∀ b, K b → b < w.heap.size) (hok : ∀ x ∈ l, x.ok) (hw : wts l ≤ 100000000000) :
    Calls Try.prog 23 #[v] w fun e w' => NewRet w 5 (u8s (encAll l)) e w' := by
  have HV := hid hv; have HOK := hid hok; have HW := hid hw; have HK := hid hK
  obtain ⟨a, cap, rfl, hx⟩ := hv.form
  clear hx
  clear hv hok hw hK
  generalize hln : l.length = n at *
  have hnb : n ≤ 100000000000 := by have := wts_len l; have := HW.out; omega
  have HLN := hid hln; clear hln
  go_enter Try.func23, Try.ntmps23
  have W0 := BufAt.new w 66
  have HW0 := hid W0; clear W0
  have hk0 : Hd (Keeps (fun _ => False) w (w.alloc (.cells #[.slice none 0 0] 66))) := hid (keeps_alloc _ _ _)
  go_wp2
  go_loopw [4] (fun i wr => ∃ k : Nat, i = .int .i64 k ∧ k ≤ n ∧ Hd (BufAt wr w.heap.size (encAll (l.take k))) ∧ Hd (Keeps (fun _ => False) w wr)) (fun i _ => n - (intOf i).toNat)
  case atStart => exact ⟨0, rfl, by omega, HW0, hk0⟩
  case round =>
    obtain ⟨k, rfl, hk, hbuf, hkeep⟩ := hrel
    by_cases hlt : k < n
    · have hkl : k < l.length := by rw [HLN.out]; exact hlt
      obtain ⟨a', cap', hva, hcells⟩ := (HV.out.keep hkeep.out (fun _ _ _ h => h)).form
      obtain ⟨b1, o1, vb, vl, ha, hKb, e0, e1, e2, e3, e4, _, hb, hl⟩ := hcells k hkl
      injection hva with hva1 hva2 hva3
      clear hva2 hva3
      subst hva1
      subst ha
      have hstep : Hd (encAll (l.take (k + 1)) = encAll (l.take k) ++ encIt l[k]) := hid (encAll_take_succ hkl)
      have hokx : Hd (l[k]).ok := hid (HOK.out _ (List.getElem_mem hkl))
      have hwx : Hd ((encAll (l.take k)).length + (l[k]).wt ≤ 100000000000) := hid (by
        have h1 := encAll_len (l := l.take k) (fun x hx => HOK.out x (List.mem_of_mem_take hx)) (by have := wts_take l k; have := HW.out; omega)
        have h2 := wts_take_succ hkl
        have h3 := HW.out
        omega)
      have HB := hid hb; have HL := hid hl
      clear hcells hb hl
      generalize l[k] = x at *
      have hbt := hid hbuf.out.tight
      have hk1 : (k : Int) < n := by omega
      have hk2 : (0 : Int) ≤ (k : Int) := by omega
      have hnK : ∀ b, b < wr.heap.size → K b → ¬ (w.heap.size < b ∧ b < wr.heap.size) ∧ b ≠ w.heap.size := fun b _ h => by have := HK.out b h; omega
      have HNK := hid hnK; clear hnK
      by_cases h0 : x.kind = 0
      · have t0 : (x.kind == 0) = true := by simp; exact h0
        have hE : Hd (encIt x = enc x.u) := hid (by unfold encIt; rw [if_pos h0])
        clear h0
        go_wp2_with (go_at_call 41; refine (WUint_any _ _ _ x.u _ hbt.out hokx.out.2.1 (by have := hwx.out; omega)).mono ?_; rintro e w3 ⟨rfl, h3⟩; replace h3 := hid h3)
        obtain ⟨B3, k3⟩ := BufAt.post hbt.out (fun _ h => h.1) h3.out
        have HB3 : Hd (BufAt w3 w.heap.size (encAll (l.take (k + 1)))) := hid (by rw [hstep.out, hE.out]; exact B3)
        have HK3 := hid (hkeep.out.after k3)
        clear B3 k3
        go_roundw
        case rel => exact ⟨k + 1, by go_num, by omega, HB3, HK3⟩
        case measure => simp [intOf]; omega
      · by_cases h1 : x.kind = 1
        · have t0 : (x.kind == 0) = false := by simp; exact h0
          have t1 : (x.kind == 1) = true := by simp; exact h1
          have hE : Hd (encIt x = encI x.n) := hid (by unfold encIt; rw [if_neg h0, if_pos h1])
          clear h0 h1
          go_wp2_with (go_at_call 42; refine (WInt_any _ _ _ x.n _ hbt.out hokx.out.2.2.1.1 hokx.out.2.2.1.2 (by have := hwx.out; omega)).mono ?_; rintro e w3 ⟨rfl, h3⟩; replace h3 := hid h3)
          obtain ⟨B3, k3⟩ := BufAt.post hbt.out (fun _ h => h.1) h3.out
          have HB3 : Hd (BufAt w3 w.heap.size (encAll (l.take (k + 1)))) := hid (by rw [hstep.out, hE.out]; exact B3)
          have HK3 := hid (hkeep.out.after k3)
          clear B3 k3
          go_roundw
          case rel => exact ⟨k + 1, by go_num, by omega, HB3, HK3⟩
          case measure => simp [intOf]; omega
        · by_cases h2 : x.kind = 2
          · have t0 : (x.kind == 0) = false := by simp; exact h0
            have t1 : (x.kind == 1) = false := by simp; exact h1
            have t2 : (x.kind == 2) = true := by simp; exact h2
            have hE : Hd (encIt x = encB x.b) := hid (by unfold encIt; rw [if_neg h0, if_neg h1, if_pos h2])
            obtain ⟨ab, cb, rfl, _, _, hx2⟩ := HB.out.bytes
            clear h0 h1 h2 hx2
            go_wp2_with (go_at_call 35; refine (WBytes_any _ K _ _ _ x.b _ hbt.out HB.out HNK.out (by have := hwx.out; unfold It.wt at this; omega)).mono ?_; rintro e w3 ⟨rfl, h3⟩; replace h3 := hid h3)
            obtain ⟨B3, k3⟩ := BufAt.post hbt.out (fun _ h => h.1) h3.out
            have HB3 : Hd (BufAt w3 w.heap.size (encAll (l.take (k + 1)))) := hid (by rw [hstep.out, hE.out]; exact B3)
            have HK3 := hid (hkeep.out.after k3)
            clear B3 k3
            go_roundw
            case rel => exact ⟨k + 1, by go_num, by omega, HB3, HK3⟩
            case measure => simp [intOf]; omega
          · have t0 : (x.kind == 0) = false := by simp; exact h0
            have t1 : (x.kind == 1) = false := by simp; exact h1
            have t2 : (x.kind == 2) = false := by simp; exact h2
            have hE : Hd (encIt x = encL x.l) := hid (by unfold encIt; rw [if_neg h0, if_neg h1, if_neg h2])
            obtain ⟨ab, cb, rfl, _, _, hx2⟩ := HL.out.ints
            clear h0 h1 h2 hx2
            go_wp2_with (go_at_call 36; refine (WInts_any _ K _ _ _ x.l _ hbt.out HL.out HNK.out (by have := hwx.out; unfold It.wt at this; omega) hokx.out.2.2.2.2.1).mono ?_; rintro e w3 ⟨rfl, h3⟩; replace h3 := hid h3)
            obtain ⟨B3, k3⟩ := BufAt.post hbt.out (fun _ h => h.1) h3.out
            have HB3 : Hd (BufAt w3 w.heap.size (encAll (l.take (k + 1)))) := hid (by rw [hstep.out, hE.out]; exact B3)
            have HK3 := hid (hkeep.out.after k3)
            clear B3 k3
            go_roundw
            case rel => exact ⟨k + 1, by go_num, by omega, HB3, HK3⟩
            case measure => simp [intOf]; omega
    · obtain rfl : k = n := by omega
      have ht : l.take k = l := List.take_of_length_le (by rw [HLN.out]; exact Nat.le_refl _)
      have hbt := hid hbuf.out.tight
      rw [ht] at hbt
      have hle : Hd ((encAll l).length ≤ 140737488351232) := hid (by have := encAll_len (l := l) HOK.out (by have := HW.out; omega); have := HW.out; omega)
      go_wp2_with (go_at_call 37; refine (WDone_any _ _ _ _ hbt.out hle.out).mono ?_; rintro e w3 ⟨a3, n3, c3, rfl, h3⟩; replace h3 := hid h3)
      go_ret
      have h4 := h3.out
      have hs := hkeep.out.size
      exact ⟨a3, n3, c3, rfl, h4.1, h4.2.1.mono (fun b _ hb => by omega), hkeep.out.trans h4.2.2⟩
end Go.Proofs.Ytlebocjcelbbpaa
