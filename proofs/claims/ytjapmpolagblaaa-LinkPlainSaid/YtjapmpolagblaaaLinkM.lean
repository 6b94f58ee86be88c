/- Link: the references' numbers and bytes (package perigeeref01), and the windows' tests (package perigeeref09). -/
import Derived.Test.YtjapmpolagblaaaLinkCells
import Derived.Test.YtjapmpolagblaaaStepRow
import Derived.StillTailTactics
namespace Go.Proofs.Ytjapmpolagblaaa
open Go.RowKit
attribute [local go_sem ↓] Go.wp_at_zero Go.wp_at_succ
def around (n most : Int) : Int := (if n < 0 then -(n + 1) else n) % most
theorem around_b (n : Int) {most : Int} (h : 1 ≤ most) : 0 ≤ around n most ∧ around n most < most := by
  unfold around; exact ⟨Int.emod_nonneg _ (by omega), Int.emod_lt_of_pos _ (by omega)⟩
set_option maxRecDepth 100000 in set_option maxHeartbeats 400000 in
theorem Around_any (n m : Int) (w : World) (h0 : -9223372036854775808 ≤ n) (h1 : n ≤ 9223372036854775807) (h2 : 1 ≤ m) (h3 : m ≤ 1000000000000000) : Calls Try.prog 6 #[.int .i64 n, .int .i64 m] w fun e w' => e = .returned (.int .i64 (around n m)) ∧ w = w' := by
  have hne : (m == 0) = false := by simp; omega
  have H0 := hid h0; have H1 := hid h1
  by_cases hn : n < 0
  · have HE : Hd (-((n + 1).tmod m) = around n m) := hid (by unfold around; rw [if_pos hn, ← Int.neg_tmod, Int.tmod_eq_emod_of_nonneg (by omega)])
    go_enter Try.func6, Try.ntmps6
    go_wp2
    go_ret
    exact ⟨ret_int HE.out, rfl⟩
  · have HE : Hd (n % m = around n m) := hid (by unfold around; rw [if_neg hn])
    go_enter Try.func6, Try.ntmps6
    go_wp2
    go_ret
    exact ⟨ret_int HE.out, rfl⟩
set_option maxRecDepth 100000 in set_option maxHeartbeats 1000000 in
theorem Few_any (K : Nat → Prop) (v : Value) (b : List Nat) (most : Int) (w : World) (hv : Sl K w v (u8s b)) (h0 : 0 ≤ most) (hu : (b.take most.toNat).length ≤ 1000000000) :
    Calls Try.prog 26 #[v, .int .i64 most] w fun e w' => NewRet w 5 (u8s (b.take most.toNat)) e w' := by
  obtain ⟨i0, hi, hz0, hz1, hz2⟩ := info_parts infoU8
  obtain ⟨a, cap, rfl, q1, q2, _⟩ := hv.bytes
  have hrow : Row K w 1 (.slice a b.length cap) b.length (u8s b) := sl_row hv (by simp)
  unfold maxLen at q2
  have HO : Hd (Own (fun k => w.heap.size ≤ k) w 5 1 (.slice none 0 0) 0 []) := hid (Own.nil _ _ _ _)
  have main : ∀ (u : Nat) (hh : Int), hh = (u : Int) → u ≤ b.length → b.take most.toNat = b.take u → (((b.length : Int) ≤ most ∧ hh = b.length) ∨ (most < b.length ∧ hh = most)) →
      Calls Try.prog 26 #[.slice a b.length cap, .int .i64 most] w fun e w' => NewRet w 5 (u8s (b.take most.toNat)) e w' := by
    intro u hh hu1 hu2 hu3 hu4
    obtain ⟨a2, c2, hcut, hr2⟩ := run_cut_to (P := Try.prog) (t := 35) Try.underlying35 hi hz1 hrow (hh := hh) u hu1 hu2
    have HR := hid hr2
    have HT := hid hu3
    have HL : Hd ((b.take u).length = u) := hid (by rw [List.length_take]; omega)
    have hu9 : u ≤ 1000000000 := by rw [hu3, HL.out] at hu; exact hu
    generalize b.length = n at *
    clear hu hu3 hr2 hrow hv
    rcases hu4 with ⟨g1, rfl⟩ | ⟨g1, rfl⟩
    all_goals
      clear hu1
      go_enter Try.func26, Try.ntmps26
      go_wp2_with (at_builtin; refine wpList_append_row rfl _ _ 35 rfl 5 i0 (.int .u8 0) 1 1 Try.underlying35 hi hz0 hz1 hz2 rfl (by decide) _ K _ _ _ _ rfl HO.out u _ rfl HR.out ?h1 ?h2 ?h3 ?_)
      case h1 => intro x hx; exact u8s_one b x (List.mem_of_mem_take hx)
      case h2 => simp [maxLen]; omega
      case h3 => omega
      intro a1 cap1 w2 hown' hgrow; try intro _
      try simp only [Nat.zero_add, List.nil_append] at hown'
      have H1 := hid hown'; have H2 := hid hgrow; clear hown' hgrow
      go_wp2
      go_ret
      refine ⟨a1, u, cap1, by simp, by rw [u8s_length, HT.out, HL.out], ?_, H2.out.mono (fun i hi h => by omega)⟩
      rw [HT.out]
      have h1 := H1.out.mono (K' := fun k => w.heap.size ≤ k) (fun b hb hh => by
        first | exact hh | (rcases hh with hh | hh <;> exact hh))
      have e2 : u8s (b.take u) = (u8s b).take (u * 1) := by unfold u8s; rw [List.map_take, Nat.mul_one]
      rw [e2]
      simpa using h1
  rcases Int.lt_or_le most b.length with h | h
  · exact main most.toNat most (by omega) (by omega) rfl (.inr ⟨h, rfl⟩)
  · exact main b.length b.length rfl (Nat.le_refl _) (by rw [List.take_of_length_le (by omega), List.take_of_length_le (Nat.le_refl _)]) (.inl ⟨h, rfl⟩)
theorem ba_loop (bs : ByteArray) : ∀ (n i : Nat) (r : List UInt8), bs.size - i = n → ByteArray.toList.loop bs i r = r.reverse ++ bs.data.toList.drop i := by
  intro n
  induction n with
  | zero =>
    intro i r h
    rw [ByteArray.toList.loop, if_neg (by omega), List.drop_eq_nil_of_le (by show bs.data.toList.length ≤ i; rw [Array.length_toList]; show bs.size ≤ i; omega)]
    simp
  | succ n ih =>
    intro i r h
    have hi : i < bs.size := by omega
    have hi2 : i < bs.data.toList.length := by rw [Array.length_toList]; exact hi
    rw [ByteArray.toList.loop, if_pos hi, ih (i+1) _ (by omega), List.drop_eq_getElem_cons hi2]
    have : bs.get! i = bs.data.toList[i] := by
      have h3 : i < bs.data.size := hi
      show bs.data[i]! = _
      rw [getElem!_pos bs.data i h3]; simp
    rw [this]; simp
theorem ba_inj {a b : ByteArray} (h : a.toList = b.toList) : a = b := by
  have e : ∀ s : ByteArray, s.toList = s.data.toList := fun s => by rw [ByteArray.toList, ba_loop s _ 0 [] rfl]; simp
  rw [e, e] at h
  cases a; cases b; congr; exact Array.toList_inj.mp h

set_option maxRecDepth 100000 in set_option maxHeartbeats 400000 in
theorem SameBytes_any (K1 K2 : Nat → Prop) (v1 v2 : Value) (xs ys : List Nat) (w : World) (h1 : Sl K1 w v1 (u8s xs)) (h2 : Sl K2 w v2 (u8s ys)) (hx : ∀ c ∈ xs, c < 256) (hy : ∀ c ∈ ys, c < 256) :
    Calls Try.prog 19 #[v1, v2] w fun e w' => e = .returned (.bool (decide (xs = ys))) ∧ w = w' := by
  have e1 := sl_string h1; have e2 := sl_string h2
  have HQ : Hd (((strB xs).toList == (strB ys).toList) = decide (xs = ys)) := hid (by
    rw [Bool.eq_iff_iff, beq_iff_eq, decide_eq_true_iff]
    exact ⟨fun h => (strB_eq hx hy).1 (ba_inj h), fun h => by rw [h]⟩)
  generalize strB xs = s at *
  generalize strB ys = t at *
  clear h1 h2 hx hy
  go_enter Try.func19, Try.ntmps19
  go_wp2
  go_ret
  exact ⟨ret_bool HQ.out, rfl⟩
end Go.Proofs.Ytjapmpolagblaaa
