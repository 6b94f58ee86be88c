/- Frame: a list of frames copied. -/
import Derived.Test.YthoikljmokkchaaDoorFrE
namespace Go.Proofs.YthoikljmokkchaaDoor
open Go.RowKit
set_option maxRecDepth 100000 in
set_option maxHeartbeats 1000000 in
theorem CloneFr_any (K : Nat → Prop) (v : Value) (l : List Fr) (w : World) (hv : Frs K w v l) (hm : l.length ≤ 1000000) :
    Calls Tryd.prog 65 #[v] w fun e w' => ∃ a c, e = .returned (.slice a l.length c) ∧ FrP (fun b => K b ∧ b < w.heap.size) w.heap.size w' (.slice a l.length c) l ∧ Keeps (fun _ => False) w w' := by
  obtain ⟨i0, zz, hi, hz0, hz1, hz2, hz3⟩ := fr_parts
  have hq : ∀ (w : World) (a : Option Addr) (n c n' c' : Nat), (binOp .eql 31 (.slice a n c) (.slice none n' c')).run Tryd.prog w = .ok (.bool a.isNone) w := fun w a n c n' c' => Lib.run_eql_slice_nil w _ _ a n c n' c' Tryd.underlying31
  obtain ⟨xs, hrow, hc⟩ := hv
  have HC := hid (hc.mono (K' := fun b => K b ∧ b < w.heap.size) (fun b h hk => ⟨hk, h⟩))
  have HB := hid hc.ones
  have HR := hid hrow
  obtain ⟨n, hn⟩ : ∃ n, l.length = n := ⟨_, rfl⟩
  have HN := hid hn
  rw [hn] at hrow HR hm ⊢
  clear hn hc
  rcases hrow with ⟨hl, ⟨rfl, rfl⟩ | ⟨bb, cap, rfl, _, _, _⟩⟩
  · have hxs : xs = [] := List.eq_nil_of_length_eq_zero (by omega)
    subst hxs
    have hl0 : l = [] := List.eq_nil_of_length_eq_zero HN.out
    subst hl0
    clear HR
    go_enter Tryd.func65, Tryd.ntmps65
    go_wp2
    go_ret
    exact ⟨none, 0, rfl, FrP.nil _ _ _, Keeps.refl _ _⟩
  · have HS : Hd (Row K (w.alloc (.cells #[] 25)) 5 (.slice (some bb) n cap) n xs) := hid (HR.out.keep (keeps_alloc (fun _ => False) w (.cells #[] 25)) (fun _ _ _ h => h))
    have HO : Hd (Own (fun k => w.heap.size ≤ k) (w.alloc (.cells #[] 25)) 25 5 (.slice (some ⟨w.heap.size, 0, none⟩) 0 0) 0 []) :=
      hid ⟨World.ownsRow_lit w #[] 0 (Nat.zero_le _) (Nat.zero_le _) rfl, fun k hk => by injection hk with hk; simp at hk; omega⟩
    go_enter Tryd.func65, Tryd.ntmps65
    go_wp2_with (at_builtin; refine wpList_append_row rfl _ _ 31 rfl 25 i0 zz 5 56 Tryd.underlying31 hi hz0 hz1 hz2 hz3 (by decide) _ K _ _ _ _ rfl HO.out n _ rfl HS.out HB.out ?h1 ?h2 ?_)
    case h1 => simp [maxLen]; omega
    case h2 => omega
    intro a1 cap1 w2 hown' hgrow; try intro _
    try simp only [Nat.zero_add, List.nil_append] at hown'
    have H1 := hid hown'; have H2 := hid hgrow; clear hown' hgrow
    go_wp2
    go_ret
    have hk2 : Keeps (fun _ => False) w w2 := (keeps_alloc _ w _).trans' H2.out (fun i hi hs => by omega)
    have h1 := H1.out.mono (K' := fun k => w.heap.size ≤ k) (fun b hb hh => by
        rcases hh with hh | hh
        · exact hh
        · first | omega | (simp at hh; omega))
    refine ⟨a1, cap1, by simp, ⟨xs, ?_, ?_, ?_⟩, hk2⟩
    · rw [HN.out]; exact ⟨by simpa using h1.1, fun _ h => h⟩
    · intro b hb
      first | exact h1.2 b hb | (exact h1.2 b (by simpa using hb))
    · exact (HC.out.keep hk2 (fun _ _ _ h => h)).mono (fun b _ h => ⟨h, fun e => by have := h1.2 b (by simpa using e); have := h.2; omega⟩)
end Go.Proofs.YthoikljmokkchaaDoor
