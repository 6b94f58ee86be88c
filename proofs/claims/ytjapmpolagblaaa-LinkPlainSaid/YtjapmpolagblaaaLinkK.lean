/- link.Quiet; the table of one contact; strings of bytes. -/
import Derived.Test.YtjapmpolagblaaaLinkJ
import Derived.Laws.BytesArg
namespace Go.Proofs.Ytjapmpolagblaaa
open Go.RowKit
attribute [local go_sem ↓] Go.wp_at_zero Go.wp_at_succ
def quietL (l : List Flt) : Int := match l.getLast? with | some x => x.t + 1 | none => 0
set_option maxRecDepth 100000 in set_option maxHeartbeats 1000000 in
theorem Quiet_any (K : Nat → Prop) (vf : Value) (l : List Flt) (cn : Int) (w : World) (hl : Fls K w vf l) (hlen : l.length ≤ 1000000) (ht : ∀ x ∈ l, 0 ≤ x.t ∧ x.t ≤ 1000000000000000) :
    Calls Try.prog 25 #[.agg #[vf, .int .i64 cn]] w fun e w' => e = .returned (.int .i64 (quietL l)) ∧ Keeps (fun _ => False) w w' := by
  obtain ⟨xs, hrow, hcl⟩ := hl
  obtain ⟨af, cf, rfl, hc1, hc2, hel⟩ := hrow.form
  have HEL := hid hel; have HCL := hid hcl; have HT := hid ht
  clear hrow hel hcl ht
  generalize hln : l.length = m at *
  have HLN := hid hln; clear hln
  rcases Nat.eq_zero_or_pos m with h0 | h0
  · have HQ : Hd (quietL l = 0) := hid (by have : l = [] := List.eq_nil_of_length_eq_zero (by rw [HLN.out]; exact h0); rw [this]; rfl)
    subst h0
    go_enter Try.func25, Try.ntmps25
    go_upto_region 1 with fail
    generalize hW : World.alloc w _ = W
    have BP : Hd (Blk W w.heap.size #[.slice af 0 cf, .int .i64 cn] 28) := hid (by rw [← hW]; exact blk_new _ _ _)
    have KW : Hd (Keeps (fun _ => False) w W) := hid (by rw [← hW]; exact keeps_alloc _ _ _)
    clear hW
    have o0 : W.cell? ⟨w.heap.size, 0, none⟩ = some (.slice af 0 cf) := blk_cell BP.out 0
    go_wp2
    go_ret
    exact ⟨ret_int HQ.out.symm, KW.out⟩
  · obtain ⟨b, off, rfl, hb1, hb2, hcell⟩ := HEL.out h0
    obtain ⟨k, rfl⟩ : ∃ k, m = k + 1 := ⟨m - 1, by omega⟩
    obtain ⟨y, hy⟩ : ∃ y, l[k]? = some y := ⟨l[k]'(by rw [HLN.out]; omega), List.getElem?_eq_getElem _⟩
    have HQ : Hd (quietL l = y.t + 1) := hid (by unfold quietL; rw [List.getLast?_eq_getElem?, HLN.out]; simp [hy])
    obtain ⟨t0, _⟩ := HCL.out k y hy
    have hyt := HT.out y (List.mem_of_getElem? hy)
    have u1 : IntKind.i64.wrap (y.t + 1) = y.t + 1 := IntWalk.i64_in _ (by omega)
    have f0' : w.cell? ⟨b, off + k * 5, none⟩ = some (.int .i64 y.t) := (hcell (k * 5) (by omega)).trans (congrArg some t0)
    have F0 := hid f0'
    have k1 : ((k + 1 : Nat) : Int) - 1 = k := by omega
    have k2 : (0 : Int) ≤ k := by omega
    have k3 : (0 : Int) < ((k + 1 : Nat) : Int) := by omega
    clear t0 hcell hy f0'
    go_enter Try.func25, Try.ntmps25
    go_upto_region 1 with fail
    generalize hW : World.alloc w _ = W
    have BP : Hd (Blk W w.heap.size #[.slice (some ⟨b, off, none⟩) (k + 1) cf, .int .i64 cn] 28) := hid (by rw [← hW]; exact blk_new _ _ _)
    have KW : Hd (Keeps (fun _ => False) w W) := hid (by rw [← hW]; exact keeps_alloc _ _ _)
    clear hW
    have o0 : W.cell? ⟨w.heap.size, 0, none⟩ = some (.slice (some ⟨b, off, none⟩) (k + 1) cf) := blk_cell BP.out 0
    have f0 := keep_cell KW.out (fun h => h) F0.out
    go_wp2
    all_goals (first | (go_ret; exact ⟨ret_int HQ.out.symm, KW.out⟩) | trace_state)
def conW : Win := ⟨1, 0, 0, 0, 5, 10⟩
def ConRet (w : World) (r : Ending) (w' : World) : Prop := ∃ a c, r = .returned (.slice a 1 c) ∧ Wins (fun b => w.heap.size ≤ b) w' (.slice a 1 c) [conW] ∧ Keeps (fun _ => False) w w'
set_option maxRecDepth 100000 in set_option maxHeartbeats 1000000 in
theorem contact_any (w : World) : Calls Try.prog 14 #[] w fun e w' => ConRet w e w' := by
  have HB : Hd (Blk (w.alloc (.cells #[.int .i64 1, .int .i64 0, .int .i64 0, .int .i64 0, .int .i64 5, .int .i64 10] 54)) w.heap.size #[.int .i64 1, .int .i64 0, .int .i64 0, .int .i64 0, .int .i64 5, .int .i64 10] 54) := hid (blk_new _ _ _)
  go_enter Try.func14, Try.ntmps14
  go_wp2
  go_ret
  refine ⟨_, 1, rfl, ⟨_, 1, rfl, Nat.le_refl _, by decide, fun k hk => ?_⟩, keeps_alloc _ _ _⟩
  obtain rfl : k = 0 := by simp at hk; exact hk
  exact ⟨w.heap.size, 0, conW, rfl, Nat.le_refl _, blk_lt HB.out, rfl, blk_cell HB.out 0, blk_cell HB.out 1, blk_cell HB.out 2, blk_cell HB.out 3, blk_cell HB.out 4, blk_cell HB.out 5⟩
/-- the string of bytes -/
def strB (l : List Nat) : ByteArray := strOfNums (l.map fun (n : Nat) => (n : Int))
theorem strB_eq {l m : List Nat} (hl : ∀ c ∈ l, c < 256) (hm : ∀ c ∈ m, c < 256) : strB l = strB m ↔ l = m := by
  constructor
  · intro h
    unfold strB strOfNums at h
    have h2 := congrArg (fun b : ByteArray => b.data.toList) h
    simp only [List.map_map] at h2
    induction l generalizing m with
    | nil => cases m with
      | nil => rfl
      | cons b m => simp at h2
    | cons a l ih =>
      cases m with
      | nil => simp at h2
      | cons b m =>
        simp only [List.map_cons, List.cons.injEq, Function.comp] at h2
        have ha := hl a (by simp); have hb := hm b (by simp)
        have h3 : a = b := by
          have := congrArg UInt8.toNat h2.1
          simp at this; omega
        subst h3
        have := ih (m := m) (fun c hc => hl c (by simp [hc])) (fun c hc => hm c (by simp [hc])) (by simpa using h) h2.2
        rw [this]
  · rintro rfl; rfl
theorem sl_string {K : Nat → Prop} {w : World} {v : Value} {l : List Nat} (h : Sl K w v (u8s l)) : (convert 35 9 v).run Try.prog w = .ok (.string (strB l)) w := by
  obtain ⟨a, c, rfl, _, _, hc⟩ := h.bytes
  cases a with
  | none =>
    have h0 : l = [] := by
      cases l with
      | nil => rfl
      | cons x l => obtain ⟨b, o, h, _⟩ := hc (by simp); cases h
    subst h0
    rw [run_convert_bytes_nil w 35 5 Try.underlying35 Try.underlying5 _ _ _ Try.underlying9]
    rfl
  | some ad =>
    rcases Nat.eq_zero_or_pos l.length with h0 | h0
    · obtain rfl := List.eq_nil_of_length_eq_zero h0
      have hl : (loadCells ad 0).run Try.prog w = .ok (([] : List Int).map (Value.int .u8)).toArray w := run_loadCells_list (P := Try.prog) w ad [] (fun j v h => by simp at h)
      rw [run_convert_bytes_string w 35 9 5 _ _ c Try.underlying35 Try.underlying5 Try.underlying9]
      exact run_bytesToString w ad 0 c [] hl
    · obtain ⟨b, o, e, _, _, hcc⟩ := hc h0
      injection e with e; subst e
      exact run_convert_bytes_arg w 35 5 Try.underlying35 Try.underlying5 b o l.length c (l.map fun (n : Nat) => (n : Int)) (by simp) (fun i hi => by
        rw [hcc i hi]; simp [List.getD, hi]) _ Try.underlying9
end Go.Proofs.Ytjapmpolagblaaa
