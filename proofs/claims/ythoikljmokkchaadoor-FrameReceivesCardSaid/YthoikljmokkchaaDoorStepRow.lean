/- Append as one step of a region that draws: rows known by their cells. -/
import Derived.Test.YthoikljmokkchaaDoorBase
import Derived.Deep.RegionHeldLaw
import Derived.Deep.RegionLawGrows
namespace Go.Proofs.YthoikljmokkchaaDoor
open Go.RowKit
theorem row_cells {K : Nat → Prop} {w : World} {size n c : Nat} {ad : Addr} {xs : List Value} (h : Row K w size (.slice (some ad) n c) n xs) : ∀ j u, xs[j]? = some u → w.cell? (ad.add j) = some u := by
  intro j u hu
  obtain ⟨h0, ⟨h1, _⟩ | ⟨x, cap, h1, h2, h3, h4⟩⟩ := h
  · injection h1 with h1; cases h1
  · injection h1 with h1 _ _
    injection h1 with h1
    subst h1
    have hj : j < xs.length := (List.getElem?_eq_some_iff.1 hu).1
    have hn : 0 < n := by
      rcases Nat.eq_zero_or_pos n with h0' | h0'
      · subst h0'; omega
      · exact h0'
    obtain ⟨b, off, rfl, _, _, h6⟩ := h4 hn
    have := h6 j (by omega)
    rw [List.getD, hu] at this
    unfold Addr.add
    split
    · rename_i h0; subst h0; simpa using this
    · simpa using this
/-- a row without room, and a literal behind it -/
theorem step_append_full {P : Program} {ops : Array Oper} {o : Oper} {a : Act} {w : World} {K : Act → World → Prop} {Q : Exit → Act → World → Prop} {E : Prop}
    (hg : o.guard = none) (s x : Operand) (t : TypeId) (hop : o.op = Op.call { callee := Callee.builtin Builtin.append, args := #[s, x], argTypes := #[t, t] })
    (e : TypeId) (i : TypeInfo) (z : Value) (size bytes : Nat) (h1 : P.underlying t = some (.slice e)) (h2 : P.info? e = some i) (h3 : i.zero = some z) (h4 : i.size = size) (h5 : i.bytes = bytes) (h6 : z.cells.size = size) (h7 : 0 < size)
    (K2 : Nat → Prop) (ao : Option Addr) (n : Nat) (olds : List Value) (hs : a.eval s = .slice ao n n) (hrow : Row K2 w size (.slice ao n n) n olds)
    (ad : Addr) (m c : Nat) (news : List Value) (hx : a.eval x = .slice (some ad) m c) (hn : news.length = m * size) (hc : ∀ j u, news[j]? = some u → w.cell? (ad.add j) = some u) (h1c : ∀ u ∈ news, u.oneCell' = true)
    (hm : 0 < m) (b1 : n + m ≤ maxLen) (b2 : (n + m) * bytes ≤ 140737488355328)
    (hK : ∀ a' cap' w', Own (fun k => w.heap.size ≤ k) w' e size (.slice a' (n + m) cap') (n + m) (olds ++ news) → Keeps (fun _ => False) w w' → K (a.put o.dst (.slice a' (n + m) cap')) w') :
    if Region.wanted o (yielded ops a.tmps) = true then Oper.wp P o a w K Q else E := by
  refine step_append_grows hg s x t hop e i z size bytes h1 h2 h3 h4 h5 h6 h7 ao n n olds hs ?_ hrow.1 ?_ ad m c news hx hn hc h1c (by omega) b1 b2 (fun v' w' g1 g2 => ?_)
  · rintro rfl
    rcases hrow.2 with ⟨h, _⟩ | ⟨_, _, h, _⟩
    · injection h with _ h2 h3; exact ⟨h2, h3⟩
    · injection h with h; cases h
  · rintro b rfl
    exact row_cells hrow
  · have hO : Own (fun k => w.heap.size ≤ k) w' e size v' (n + m) (olds ++ news) := ⟨⟨g1.1, g1.2.imp id (fun ⟨g, cap, cur, r1, r2, r3⟩ => ⟨g, cap, cur, r1, Nat.zero_le _, r3⟩)⟩, fun k hk => (g1.lt k hk).1⟩
    obtain ⟨a', cap', rfl, _⟩ := hO.row.form
    exact hK a' cap' w' hO ((Keeps.refl _ w).grown g2 (fun k hk => by cases hk))
/-- l[:k:k] -/
theorem run_cut_full {P : Program} {t e : TypeId} {i : TypeInfo} {size : Nat} (ht : P.underlying t = some (.slice e)) (hi : P.info? e = some i) (hsz : i.size = size) {K : Nat → Prop} {w0 : World} {m cap : Nat} {a : Option Addr} {xs : List Value}
    (h : Row K w0 size (.slice a m cap) m xs) (u : Nat) (h2 : u ≤ m) :
    ∃ a2, (∀ w, (Instr.slice t (.slice a m cap) none (some (.int .i64 u)) (some (.int .i64 u))).run P w = .ok (.slice a2 u u) w) ∧ Row K w0 size (.slice a2 u u) u (xs.take (u * size)) := by
  have hc : m ≤ cap := by
    obtain ⟨_, c2, h3, h4, _⟩ := h.form
    injection h3 with _ _ h5; omega
  have hm : cap ≤ maxLen := by
    obtain ⟨_, c2, h3, _, h4, _⟩ := h.form
    injection h3 with _ _ h5; omega
  have he : P.elem t = e := by simp [Program.elem, ht]
  have hx : sliced a 0 u u size = .slice (if u = 0 then a else a.map (·.add (0 * size))) u u := by simp [sliced]
  refine ⟨if u = 0 then a else a.map (·.add (0 * size)), fun w => ?_, ?_⟩
  · have h5 := run_slice_hm (P := P) (w := w) t a m cap (by rw [he]; exact ht) .i64 .i64 u u (by omega) (by omega) (by omega)
    rw [h5, he]
    simp [sizeOf, typeInfo, hi, hsz, Result.andThen, sliced]
  · have hl : (xs.take (u * size)).length = u * size := by
      rw [List.length_take, h.1]; exact Nat.min_eq_left (Nat.mul_le_mul_right _ h2)
    refine ⟨hl, ?_⟩
    obtain ⟨h0, ⟨hv, rfl⟩ | ⟨x, cap', hv, g1, g2, g3⟩⟩ := h
    · injection hv with hv1 _ hv2
      obtain rfl : u = 0 := by omega
      left; simp [hv1]
    · injection hv with hv1 _ hv2
      subst hv1; subst hv2
      right
      rcases Nat.eq_zero_or_pos u with hu | hu
      · subst hu
        exact ⟨x, 0, by simp, Nat.le_refl _, by omega, fun h => by omega⟩
      · obtain ⟨b, o, rfl, g4, g5, g6⟩ := g3 (by omega)
        refine ⟨⟨b, o, none⟩, u, ?_, Nat.le_refl _, by omega, fun _ => ⟨b, o, rfl, g4, g5, fun j hj => ?_⟩⟩
        · rw [if_neg (by omega)]; simp [Addr.add]
        · rw [g6 j (Nat.lt_of_lt_of_le hj (Nat.mul_le_mul_right _ h2))]
          simp [List.getD, hj]
end Go.Proofs.YthoikljmokkchaaDoor
