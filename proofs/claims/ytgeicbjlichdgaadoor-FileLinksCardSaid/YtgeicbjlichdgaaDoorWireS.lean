/- The walks of package wire's Reader: the methods that stand on Uint. -/
import Derived.Test.YtgeicbjlichdgaaDoorWireR
namespace Go.Proofs.YtgeicbjlichdgaaDoor.Wi
open Go.RowKit

theorem xor_m1 (x : Nat) (hx : x < 9223372036854775808) : bits BinOp.xor IntKind.i64 (x : Int) (-1) = -(x : Int) - 1 := by
  show IntKind.i64.wrap ((BitVec.ofInt 64 (x : Int) ^^^ BitVec.ofInt 64 (-1)).toNat : Int) = _
  rw [show BitVec.ofInt 64 (-1) = BitVec.allOnes 64 by decide, BitVec.xor_allOnes, BitVec.toNat_not, BitVec.ofInt_natCast, BitVec.toNat_ofNat, Nat.mod_eq_of_lt (by omega), IntKind.wrap_i64]
  omega
theorem xor_z (x : Nat) (hx : x < 9223372036854775808) : bits BinOp.xor IntKind.i64 (x : Int) 0 = (x : Int) := by
  show IntKind.i64.wrap ((BitVec.ofInt 64 (x : Int) ^^^ BitVec.ofInt 64 0).toNat : Int) = _
  rw [show BitVec.ofInt 64 0 = 0#64 by decide, BitVec.xor_zero, BitVec.ofInt_natCast, BitVec.toNat_ofNat, Nat.mod_eq_of_lt (by omega), IntKind.wrap_i64]
  omega
theorem zag_bits (u : Nat) (hu : u ≤ 18446744073709551615) : bits BinOp.xor IntKind.i64 (wrap64 ((u : Int) / 2)) (wrap64 (-wrap64 (bits BinOp.and IntKind.u64 (u : Int) 1))) = zag u := by
  rw [and_one_u64 _ (by omega) (by omega), show wrap64 ((u : Int) / 2) = ((u / 2 : Nat) : Int) by unfold wrap64; omega]
  rcases Nat.mod_two_eq_zero_or_one u with h | h
  · rw [show wrap64 ((u : Int) % 2) = 0 by unfold wrap64; omega, show wrap64 (-0) = 0 by unfold wrap64; decide, xor_z _ (by omega)]
    simp [zag, h]
  · rw [show wrap64 ((u : Int) % 2) = 1 by unfold wrap64; omega, show wrap64 (-1) = -1 by unfold wrap64; decide, xor_m1 _ (by omega)]
    simp [zag, h]
def RIPost (K : Nat → Prop) (w : World) (p : Nat) (s : St) (r : Ending) (w' : World) : Prop := r = .returned (.int .i64 (sI s).2) ∧ Rd K w' p (sI s).1 ∧ Keeps (fun k => k = p) w w'
set_option maxRecDepth 100000 in set_option maxHeartbeats 400000 in
theorem RInt_any (K : Nat → Prop) (p : Nat) (s : St) (w : World) (h : Rd K w p s) :
    Calls Tryd.prog 69 #[.pointer (some ⟨p, 0, none⟩)] w fun e w' => RIPost K w p s e w' := by
  have HR := hid h; clear h
  have HU := hid (sU_lt s)
  generalize hu : (sU s).2 = u at *
  have HE := hid hu; clear hu
  go_enter Tryd.func69, Tryd.ntmps69
  go_wp2_with (go_at_call 72; refine (RUint_any K p s _ HR.out).mono ?_; rintro e w1 ⟨rfl, h1⟩; replace h1 := hid h1; rw [HE.out])
  go_ret
  have h := h1.out
  refine ⟨?_, h.1, h.2⟩
  rw [show (sI s).2 = zag u by rw [← HE.out]; rfl, ← zag_bits u HU.out]
  rfl
def RSPost (K : Nat → Prop) (w : World) (p : Nat) (most : Int) (s : St) (r : Ending) (w' : World) : Prop :=
  ∃ n : Int, r = .returned (.tuple #[.int .i64 n, .bool (decide ((sSize most s).1.1 = 0))]) ∧ ((sSize most s).1.1 = 0 → n = ((sSize most s).2 : Nat)) ∧ Rd K w' p (sSize most s).1 ∧ Keeps (fun k => k = p) w w'
theorem rs_ret {n : Int} {a b : Bool} (h : a = b) : Ending.returned (.tuple #[.int .i64 n, .bool a]) = .returned (.tuple #[.int .i64 n, .bool b]) := by rw [h]
theorem rd_of {K : Nat → Prop} {w1 w2 : World} {p at_ : Nat} {bv : Value} {bs l : List Nat} {e : Int} (hc : RC w2 p bv at_ e) (hk : Keeps (fun k => k = p) w1 w2)
    (h : Sl K w1 bv (u8s bs) ∧ ¬ K p ∧ p < w1.heap.size ∧ at_ ≤ bs.length ∧ bs.length ≤ 140737488351232 ∧ (∀ c ∈ bs, c < 256)) (hl : e = 0 → l = bs.drop at_) : Rd K w2 p (e, l) := by
  obtain ⟨h0, h1, h2, h3, h4, h5⟩ := h
  obtain ⟨c0, c1, c2, c3, c4⟩ := hc
  exact ⟨bv, bs, at_, c0, c1, c2, c3, c4, h0.keep hk (fun b _ hb => by rintro rfl; exact h1 hb), h1, Nat.lt_of_lt_of_le h2 hk.size, h3, h4, h5, hl⟩
set_option maxRecDepth 100000 in set_option maxHeartbeats 400000 in
theorem RSize_any (K : Nat → Prop) (p : Nat) (most : Int) (s : St) (w : World) (h : Rd K w p s) (hmo : most ≤ 9223372036854775807) :
    Calls Tryd.prog 68 #[.pointer (some ⟨p, 0, none⟩), .int .i64 most] w fun e w' => RSPost K w p most s e w' := by
  have HMO := hid hmo; clear hmo
  have HR := hid h; clear h
  have HU := hid (sU_lt s)
  generalize hu : (sU s).2 = u at *
  have HE := hid hu; clear hu
  go_enter Tryd.func68, Tryd.ntmps68
  go_wp2_with fail
  refine (RUint_any K p s _ HR.out).mono ?_
  rintro e w1 ⟨rfl, h1⟩
  rw [HE.out]
  have hk := hid h1.2
  obtain ⟨bv, bs, at_, g1, g2, g3, g4, g5, g6, g7, g8, g9, g10, g11, g12⟩ := h1.1
  have G := hid (And.intro g6 (And.intro g7 (And.intro g8 (And.intro g9 (And.intro g10 g11))))); have G12 := hid g12
  clear g6 g7 g8 g9 g10 g11 g12
  have HF : Hd (sSize most s = if (sU s).1.1 = 0 then (if most < 0 ∨ most < u then ((2, (sU s).1.2), 0) else ((sU s).1, u)) else ((sU s).1, 0)) := hid (by
    unfold sSize; rw [← HE.out])
  clear h1
  generalize (sU s).1 = t at *
  obtain ⟨e0, l0⟩ := t
  simp only at g3 HF
  by_cases he : e0 = 0
  · subst he
    rw [if_pos rfl] at HF
    by_cases hm : most < 0
    · rw [if_pos (Or.inl hm)] at HF
      go_wp2
      go_quiet (fail)
      go_wp2
      go_ret2
      exact ⟨_, rs_ret (by rw [HF.out]; rfl), fun h => by rw [HF.out] at h; simp at h, by rw [HF.out]; exact rd_of (e := 2) (l := l0) (rc_drewN (rc_set2 ⟨g1, g2, g3, g4, g5⟩ 2) _) ((keeps_set (fun k => k = p) w1 _ _ rfl).drewN _) G.out (by simp), (hk.out.setCell (.inl rfl) _).drewN _⟩
    · by_cases hm2 : most < u
      · rw [if_pos (Or.inr hm2)] at HF
        have hm3 : 0 ≤ most := by omega
        have t2 : IntKind.u64.wrap most = most := by rw [wrap_u64]; have := HU.out; omega
        clear hm
        go_wp2
        go_quiet (fail)
        go_wp2
        go_ret2
        exact ⟨_, rs_ret (by rw [HF.out]; rfl), fun h => by rw [HF.out] at h; simp at h, by rw [HF.out]; exact rd_of (e := 2) (l := l0) (rc_drewN (rc_set2 ⟨g1, g2, g3, g4, g5⟩ 2) _) ((keeps_set (fun k => k = p) w1 _ _ rfl).drewN _) G.out (by simp), (hk.out.setCell (.inl rfl) _).drewN _⟩
      · rw [if_neg (by omega)] at HF
        have hm3 : 0 ≤ most := by omega
        have hm4 : (u : Int) ≤ most := by omega
        have t2 : IntKind.u64.wrap most = most := by rw [wrap_u64]; have := HMO.out; omega
        have t3 : wrap64 (u : Int) = u := by unfold wrap64; have := HMO.out; omega
        have T3 := hid t3; clear t3
        clear hm hm2
        go_wp2
        go_quiet (fail)
        go_wp2
        go_ret2
        exact ⟨_, rs_ret (by rw [HF.out]; rfl), fun h => by rw [HF.out]; exact T3.out, by rw [HF.out]; exact rd_of (e := 0) (l := l0) (rc_drewN ⟨g1, g2, g3, g4, g5⟩ _) ((Keeps.refl (fun k => k = p) w1).drewN _) G.out (fun _ => G12.out (by simp)), hk.out.drewN _⟩
  · rw [if_neg he] at HF
    have HE0 := hid he
    have t1 : (e0 == 0) = false := by simp; exact he
    clear he
    go_wp2
    go_quiet (fail)
    go_wp2
    go_ret2
    exact ⟨_, rs_ret (by rw [HF.out]; simpa using HE0.out), fun h => by rw [HF.out] at h; exact absurd h HE0.out, by rw [HF.out]; exact rd_of (e := e0) (l := l0) (rc_drewN ⟨g1, g2, g3, g4, g5⟩ _) ((Keeps.refl (fun k => k = p) w1).drewN _) G.out (fun h => absurd h HE0.out), hk.out.drewN _⟩
set_option maxRecDepth 100000 in set_option maxHeartbeats 400000 in
theorem REnd_any (K : Nat → Prop) (p : Nat) (s : St) (w : World) (h : Rd K w p s) :
    Calls Tryd.prog 59 #[.pointer (some ⟨p, 0, none⟩)] w fun e w' => e = .returned (.int .i64 (sEnd s)) ∧ Drawn w w' := by
  obtain ⟨bv, bs, at_, g1, g2, g3, g4, g5, h6, h7, h8, h9, h10, h11, h12⟩ := h
  obtain ⟨ev, l⟩ := s
  obtain ⟨a, cap, rfl, _, _, _⟩ := h6.bytes
  simp only at g3 h12
  clear h6 h7 h8
  by_cases he : ev = 0
  · subst he
    have HF : Hd (sEnd (0, l) = if at_ < bs.length then 7 else 0) := hid (by rw [h12 rfl]; simp [sEnd]; split <;> split <;> omega)
    clear h12
    generalize bs.length = n at *
    have hn : n ≤ 140737488351232 := h10
    clear h10 h11
    by_cases hlt : at_ < n
    · have hl1 : (at_ : Int) < n := by omega
      rw [if_pos hlt] at HF
      go_enter Tryd.func59, Tryd.ntmps59
      go_wp2
      go_quiet (fail)
      go_wp2
      go_ret
      exact ⟨ret_int HF.out.symm, drawn_n (Drawn.refl _) _⟩
    · have hl1 : (n : Int) ≤ at_ := by omega
      rw [if_neg hlt] at HF
      go_enter Tryd.func59, Tryd.ntmps59
      go_wp2
      go_quiet (fail)
      go_wp2
      go_ret
      exact ⟨ret_int HF.out.symm, drawn_n (Drawn.refl _) _⟩
  · have HF : Hd (sEnd (ev, l) = ev) := hid (by simp [sEnd, he])
    have t1 : (ev == 0) = false := by simp; exact he
    clear he h9 h10 h11 h12
    go_enter Tryd.func59, Tryd.ntmps59
    go_wp2
    go_quiet (fail)
    go_wp2
    go_ret
    exact ⟨ret_int HF.out.symm, drawn_n (Drawn.refl _) _⟩
end Go.Proofs.YtgeicbjlichdgaaDoor.Wi
