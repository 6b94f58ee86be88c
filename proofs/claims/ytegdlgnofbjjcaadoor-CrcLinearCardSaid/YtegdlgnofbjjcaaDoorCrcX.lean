/- The walk of mixed. -/
import Derived.Test.YtegdlgnofbjjcaaDoorCrcU
import Derived.Deep.RegionLaw
namespace Go.Proofs.YtegdlgnofbjjcaaDoor
open Go.RowKit
attribute [local go_sem ↓] Go.wp_at_zero Go.wp_at_succ
/-- append to a row of the call's own, as one step of a region that draws -/
theorem step_append_row {P : Program} {ops : Array Oper} {o : Oper} {a : Act} {w : World} {K : Act → World → Prop} {Q : Exit → Act → World → Prop} {E : Prop}
    (hg : o.guard = none) (s x : Operand) (t : TypeId) (hop : o.op = Op.call { callee := Callee.builtin Builtin.append, args := #[s, x], argTypes := #[t, t] })
    (e : TypeId) (i : TypeInfo) (z : Value) (size bytes : Nat) (ht : P.underlying t = some (.slice e)) (hi : P.info? e = some i) (hz : i.zero = some z)
    (hsize : i.size = size) (hby : i.bytes = bytes) (hzs : z.cells.size = size) (hsz : 0 < size)
    (S : Nat → Prop) (v : Value) (n : Nat) (xs : List Value) (hs : a.eval s = v) (hown : Own S w e size v n xs)
    (ad : Addr) (m c : Nat) (news : List Value) (hx : a.eval x = .slice (some ad) m c) (hl : news.length = m * size) (hc : ∀ j u, news[j]? = some u → w.cell? (ad.add j) = some u) (h1 : ∀ u ∈ news, u.oneCell' = true)
    (h63 : n + m ≤ maxLen) (hbytes : (n + m) * bytes ≤ 140737488355328)
    (hK : ∀ a' cap' w', Own (fun k => S k ∨ w.heap.size ≤ k) w' e size (.slice a' (n + m) cap') (n + m) (xs ++ news) → Keeps S w w' → K (a.put o.dst (.slice a' (n + m) cap')) w') :
    if Region.wanted o (yielded ops a.tmps) = true then Oper.wp P o a w K Q else E := by
  have hw : Region.wanted o (yielded ops a.tmps) = true := by simp [Region.wanted, hg]
  rw [if_pos hw]
  obtain ⟨v', w', hrun, g1, g2, g3, g4⟩ := run_append_own_at (P := P) w 0 t o.type e i z size bytes ht hi hz hsize hby hzs hsz v n xs hown.1 ad m c news hl hc h1 h63 hbytes (Nat.zero_le _)
  have hO : Own (fun k => S k ∨ w.heap.size ≤ k) w' e size v' (n + m) (xs ++ news) := ⟨g1, fun k hk => by
    rcases g4 with g4 | g4
    · exact .inl (hown.2 k (g4.symm.trans hk))
    · rw [g4] at hk; injection hk with hk; subst hk; exact .inr (Nat.le_refl _)⟩
  obtain ⟨a', cap', rfl, _⟩ := hO.row.form
  have := hK a' cap' w' hO ((Keeps.refl S w).grown g2 (fun k hk => .inl (hown.2 k hk)))
  unfold Oper.wp
  simp [execOp, hop, resolve, invoke, builtin, hs, hx, hrun, Result.andThen]
  exact this
theorem one_src (w : World) (x : Value) (t : TypeId) : ∀ (j : Nat) (u : Value), [x][j]? = some u → ((w.alloc (.cells #[x] t)).drew).cell? ((⟨w.heap.size, 0, none⟩ : Addr).add j) = some u := by
  intro j u hu
  match j, hu with
  | 0, hu =>
    simp at hu; subst hu
    exact cell_one_new w x t 0 x rfl
  | j + 1, hu => simp at hu
def mix3 : List Nat → List Nat → List Nat → List Nat
  | x :: a, y :: b, z :: c => (x ^^^ y ^^^ z) :: mix3 a b c
  | _, _, _ => []
theorem mix3_len : ∀ a b c : List Nat, (mix3 a b c).length = min a.length (min b.length c.length)
  | [], b, c => by simp [mix3]
  | x :: a, [], c => by simp [mix3]
  | x :: a, y :: b, [] => by simp [mix3]
  | x :: a, y :: b, z :: c => by
    simp only [mix3, List.length_cons, mix3_len a b c]
    omega
theorem mix3_at : ∀ (a b c : List Nat) (k : Nat), k < a.length → k < b.length → k < c.length → (mix3 a b c)[k]? = some (a.getD k 0 ^^^ b.getD k 0 ^^^ c.getD k 0)
  | [], b, c, k, h, _, _ => by simp at h
  | x :: a, [], c, k, _, h, _ => by simp at h
  | x :: a, y :: b, [], k, _, _, h => by simp at h
  | x :: a, y :: b, z :: c, 0, _, _, _ => by simp [mix3]
  | x :: a, y :: b, z :: c, k + 1, h1, h2, h3 => by
    simp only [mix3, List.getElem?_cons_succ, List.getD_cons_succ]
    exact mix3_at a b c k (by simpa using h1) (by simpa using h2) (by simpa using h3)
theorem mix3_take (a b c : List Nat) (k : Nat) (h1 : k < a.length) (h2 : k < b.length) (h3 : k < c.length) : (mix3 a b c).take (k + 1) = (mix3 a b c).take k ++ [a.getD k 0 ^^^ b.getD k 0 ^^^ c.getD k 0] := by
  rw [List.take_add_one, mix3_at a b c k h1 h2 h3]; rfl
set_option maxRecDepth 100000 in set_option maxHeartbeats 1000000 in
theorem mixed_any (K : Nat → Prop) (v0 v1 v2 : Value) (x y z : List Nat) (w : World) (h0 : Sl K w v0 (u8s x)) (h1 : Sl K w v1 (u8s y)) (h2 : Sl K w v2 (u8s z)) (hx : ∀ c ∈ x, c < 256) (hy : ∀ c ∈ y, c < 256) (hz : ∀ c ∈ z, c < 256) (hm : x.length ≤ 140737488351232) :
    Calls Tryd.prog 24 #[v0, v1, v2] w fun e w' => NewRet w 5 (u8s (mix3 x y z)) e w' := by
  obtain ⟨i0, hi, hz0, hz1, hz2⟩ := info_parts infoU8
  have HX := hid (getD_lt hx); have HY := hid (getD_lt hy); have HZ := hid (getD_lt hz)
  have HT := hid (mix3_take x y z); have HML := hid (mix3_len x y z)
  obtain ⟨a0, cap0, rfl, _, q0, d0⟩ := h0.bytes
  obtain ⟨a1, cap1, rfl, _, q1, d1⟩ := h1.bytes
  obtain ⟨a2, cap2, rfl, _, q2, d2⟩ := h2.bytes
  clear h0 h1 h2 hx hy hz
  unfold maxLen at q0 q1 q2
  have D0 := hid d0; have D1 := hid d1; have D2 := hid d2
  clear d0 d1 d2
  generalize x.length = nx at *
  generalize y.length = ny at *
  generalize z.length = nz at *
  have SZ := hid (Nat.le_refl w.heap.size)
  go_enter Tryd.func24, Tryd.ntmps24
  go_wp2_with fail
  go_loopw [7, 8] (fun o i wr => ∃ (k : Nat) (a : Option Addr) (m c : Nat), i = .int .i64 k ∧ o = .slice a m c ∧ k ≤ nx ∧ k ≤ ny ∧ k ≤ nz ∧ Hd (m = k)
      ∧ Hd (Own (fun b => w.heap.size ≤ b) wr 5 1 (.slice a m c) m (u8s ((mix3 x y z).take k))) ∧ Hd (Keeps (fun _ => False) w wr)) (fun _ i _ => nx - (intOf i).toNat)
  case atStart => exact ⟨0, none, 0, 0, rfl, rfl, by omega, by omega, by omega, hid rfl, hid (Own.nil _ _ _ _), hid (Keeps.refl _ _)⟩
  case round =>
    obtain ⟨k, a, m, c, rfl, rfl, hk0, hk1, hk2, hmk, hown, hkeep⟩ := hrel
    have hsz := hkeep.out.size
    by_cases hlt : k < nx ∧ k < ny ∧ k < nz
    · obtain ⟨l0, l1, l2⟩ := hlt
      obtain ⟨b0, o0, rfl, _, _, c0⟩ := D0.out (by omega)
      obtain ⟨b1, o1, rfl, _, _, c1⟩ := D1.out (by omega)
      obtain ⟨b2, o2, rfl, _, _, c2⟩ := D2.out (by omega)
      have g0 := keep_cell hkeep.out (fun h => h) (c0 k l0)
      have g1 := keep_cell hkeep.out (fun h => h) (c1 k l1)
      have g2 := keep_cell hkeep.out (fun h => h) (c2 k l2)
      clear c0 c1 c2
      have HTK := hid (HT.out k l0 l1 l2)
      have HXK := hid (HX.out k); have HYK := hid (HY.out k); have HZK := hid (HZ.out k)
      generalize x.getD k 0 = p at *
      generalize y.getD k 0 = q at *
      generalize z.getD k 0 = r at *
      have X1 := u8_xor_nat p q HXK.out HYK.out
      have X2 := u8_xor_nat (p ^^^ q) r (xor_lt (n := 8) HXK.out HYK.out) HZK.out
      have hk5 : (0 : Int) ≤ k := by omega
      go_upto_region 5 with fail
      have HML2 : Hd (m + 1 ≤ 140737488355328) := hid (by have := hmk.out; omega)
      go_region_law (refine step_append_row rfl (.tmp 27) (.tmp 42) 22 rfl 5 i0 (.int .u8 0) 1 1 Tryd.underlying22 hi hz0 hz1 hz2 rfl (by decide) (fun b => w.heap.size ≤ b) (.slice a m c) m _ (by simp [Act.eval, Act.put]) (hown.out.alloc _) ⟨wr.heap.size, 0, none⟩ 1 1 [.int .u8 (p ^^^ q ^^^ r : Nat)] (by simp [Act.eval, Act.put]) rfl (one_src wr _ _) (by intro u hu; simp at hu; subst hu; rfl) (by have := HML2.out; simp [maxLen]; omega) (by have := HML2.out; omega) ?_; intro a1 cap1 w1 hown' hgrow; replace hown' := hid hown'; replace hgrow := hid hgrow)
      all_goals
        have HK5 : Hd (Keeps (fun b => w.heap.size ≤ b) wr w1) := hid ((Keeps.drew (keeps_alloc _ wr _)).trans hgrow.out)
        go_wp2
        go_roundw
        case rel =>
          refine ⟨k + 1, a1, m + 1, cap1, by go_num, rfl, by omega, by omega, by omega, hid (by have := hmk.out; omega), hid ?_, hid (hkeep.out.trans' HK5.out (fun i hi hs => by omega))⟩
          have := hown'.out.mono (K' := fun b => w.heap.size ≤ b) (fun b _ hb => by rcases hb with hb | hb <;> (try simp at hb) <;> omega)
          rw [HTK.out, u8s_append]
          exact this
        case measure => simp [intOf]; omega
    · have hkk : Hd (k = min nx (min ny nz)) := hid (by omega)
      have HR : Hd (Own (fun b => w.heap.size ≤ b) wr 5 1 (.slice a m c) m (u8s (mix3 x y z))) := hid (by have := hown.out; rw [List.take_of_length_le (by rw [HML.out, hkk.out]; exact Nat.le_refl _)] at this; exact this)
      have hc3 : nx ≤ k ∨ (k < nx ∧ ny ≤ k) ∨ (k < nx ∧ k < ny ∧ nz ≤ k) := by omega
      clear hlt
      rcases hc3 with h | ⟨h, h'⟩ | ⟨h, h', h''⟩
      all_goals
        go_wp2
        go_ret
        exact ⟨a, m, c, rfl, by rw [u8s_length, HML.out, hmk.out, hkk.out], HR.out, hkeep.out⟩
end Go.Proofs.YtegdlgnofbjjcaaDoor
