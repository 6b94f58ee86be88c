/- Append to a row of the call's own, as one step of a region that draws. -/
import Derived.Test.YthoikljmokkchaaDoorBase
import Derived.Deep.RegionHeldLaw
namespace Go.Proofs.YthoikljmokkchaaDoor
open Go.RowKit
/-- append to a row of the call's own, as one step of a region that draws -/
theorem step_append_row {P : Program} {ops : Array Oper} {o : Oper} {a : Act} {w : World} {K : Act → World → Prop} {Q : Exit → Act → World → Prop} {E : Prop}
    (hg : o.guard = none) (s x : Operand) (t : TypeId) (hop : o.op = Op.call { callee := Callee.builtin Builtin.append, args := #[s, x], argTypes := #[t, t] })
    (e : TypeId) (i : TypeInfo) (z : Value) (size bytes : Nat) (ht : P.underlying t = some (.slice e)) (hi : P.info? e = some i) (hz : i.zero = some z)
    (hsize : i.size = size) (hby : i.bytes = bytes) (hzs : z.cells.size = size) (hsz : 0 < size)
    (S : Nat → Prop) (v : Value) (n : Nat) (xs : List Value) (hs : a.eval s = v) (hown : Own S w e size v n xs)
    (ad : Addr) (m c : Nat) (news : List Value) (hx : a.eval x = .slice (some ad) m c) (hl : news.length = m * size) (hc : ∀ j u, news[j]? = some u → w.cell? (ad.add j) = some u) (h1 : ∀ u ∈ news, u.oneCell' = true)
    (h63 : n + m ≤ maxLen) (hbytes : (n + m) * bytes ≤ 140737488355328)
    (hK : ∀ a' cap' w', Own (fun k => S k ∨ w.heap.size ≤ k) w' e size (.slice a' (n + m) cap') (n + m) (xs ++ news) → Keeps S w w' → K (a.put o.dst (.slice a' (n + m) cap')) w') :
    if Region.wanted o (yielded ops a.tmps) = true then Oper.wp P o a w K Q else E := by
  have hw : Region.wanted o (yielded ops a.tmps) = true := by simp [Region.wanted, hg]
  rw [if_pos hw]
  obtain ⟨v', w', hrun, g1, g2, g3, g4⟩ := run_append_own_at (P := P) w 0 t o.type e i z size bytes ht hi hz hsize hby hzs hsz v n xs hown.1 ad m c news hl hc h1 h63 hbytes (Nat.zero_le _)
  have hO : Own (fun k => S k ∨ w.heap.size ≤ k) w' e size v' (n + m) (xs ++ news) := ⟨g1, fun k hk => by
    rcases g4 with g4 | g4
    · exact .inl (hown.2 k (g4.symm.trans hk))
    · rw [g4] at hk; injection hk with hk; subst hk; exact .inr (Nat.le_refl _)⟩
  obtain ⟨a', cap', rfl, _⟩ := hO.row.form
  have := hK a' cap' w' hO ((Keeps.refl S w).grown g2 (fun k hk => .inl (hown.2 k hk)))
  unfold Oper.wp
  simp [execOp, hop, resolve, invoke, builtin, hs, hx, hrun, Result.andThen]
  exact this
theorem lit_src (w : World) (cs : List Value) (T : TypeId) : ∀ (j : Nat) (u : Value), cs[j]? = some u → (w.alloc (.cells cs.toArray T)).cell? ((⟨w.heap.size, 0, none⟩ : Addr).add j) = some u := by
  intro j u hu
  have h := blk_cell (blk_new w cs.toArray T) j
  unfold Addr.add
  split
  · rename_i h0; subst h0; rw [h]; simpa using hu
  · simp only [Nat.zero_add]; rw [h]; simpa using hu
end Go.Proofs.YthoikljmokkchaaDoor
