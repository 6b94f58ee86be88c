/- Windows: the iterator over a table's windows of a key. -/
import Derived.Test.YtjapmpolagblaaaChecked
import Derived.Test.YtjapmpolagblaaaRegion
import Derived.RangeFuncNested
import Derived.RangeFuncBound
import Derived.RangeFuncLeaves
import Derived.Shelf.Abstract
import Derived.WalkKit
import Derived.OwnWalkIn
import Derived.TacticsInMore
import Derived.LoopNIn
import Derived.LoopIn
import Derived.Deep.RegionHeld
namespace Go.Proofs.Ytjapmpolagblaaa
open Go.RowKit Go.Shelf
attribute [local go_sem] Oper.semAt_some

structure Win where
  k : Int
  a : Int
  b : Int
  f : Int
  u : Int
  r : Int
/-- a slice of windows -/
def Wins (K : Nat → Prop) (w : World) (v : Value) (l : List Win) : Prop := ∃ a cap, v = .slice a l.length cap ∧ l.length ≤ cap ∧ cap ≤ maxLen ∧
  (∀ k, k < l.length → ∃ b o x, a = some ⟨b, o, none⟩ ∧ K b ∧ b < w.heap.size ∧ l[k]? = some x ∧ w.cell? ⟨b, o + k * 6, none⟩ = some (.int .i64 x.k) ∧ w.cell? ⟨b, o + k * 6 + 1, none⟩ = some (.int .i64 x.a) ∧ w.cell? ⟨b, o + k * 6 + 2, none⟩ = some (.int .i64 x.b) ∧
    w.cell? ⟨b, o + k * 6 + 3, none⟩ = some (.int .i64 x.f) ∧ w.cell? ⟨b, o + k * 6 + 4, none⟩ = some (.int .i64 x.u) ∧ w.cell? ⟨b, o + k * 6 + 5, none⟩ = some (.int .i64 x.r))
theorem Wins.keep {K S : Nat → Prop} {w w' : World} {v : Value} {l : List Win} (h : Wins K w v l) (hk : Keeps S w w') (hd : ∀ b, b < w.heap.size → K b → ¬ S b) : Wins K w' v l := by
  obtain ⟨a, cap, h1, h2, h3, h4⟩ := h
  refine ⟨a, cap, h1, h2, h3, fun k hkk => ?_⟩
  obtain ⟨b, o, x, g1, g2, g3, g4, c0, c1, c2, c3, c4, c5⟩ := h4 k hkk
  have hs := hd b g3 g2
  exact ⟨b, o, x, g1, g2, Nat.lt_of_lt_of_le g3 hk.size, g4, keep_cell hk hs c0, keep_cell hk hs c1, keep_cell hk hs c2, keep_cell hk hs c3, keep_cell hk hs c4, keep_cell hk hs c5⟩
theorem Wins.mono {K K' : Nat → Prop} {w : World} {v : Value} {l : List Win} (h : Wins K w v l) (hd : ∀ b, b < w.heap.size → K b → K' b) : Wins K' w v l := by
  obtain ⟨a, cap, h1, h2, h3, h4⟩ := h
  refine ⟨a, cap, h1, h2, h3, fun k hkk => ?_⟩
  obtain ⟨b, o, x, g1, g2, g3, g4⟩ := h4 k hkk
  exact ⟨b, o, x, g1, hd b g3 g2, g3, g4⟩
def Win.key (x : Win) (kind a b : Int) : Bool := x.k == kind && x.a == a && x.b == b
theorem take_succ_some {α : Type} {l : List α} {k : Nat} {x : α} (h : l[k]? = some x) : l.take (k + 1) = l.take k ++ [x] := by rw [List.take_add_one, h]; rfl
theorem filter_yes {l : List Win} {k : Nat} {x : Win} {kind a b : Int} (h : l[k]? = some x) (hk : x.key kind a b = true) : (l.take (k + 1)).filter (fun y => y.key kind a b) = (l.take k).filter (fun y => y.key kind a b) ++ [x] := by
  rw [take_succ_some h, List.filter_append]; simp [hk]
theorem filter_no {l : List Win} {k : Nat} {x : Win} {kind a b : Int} (h : l[k]? = some x) (hk : x.key kind a b = false) : (l.take (k + 1)).filter (fun y => y.key kind a b) = (l.take k).filter (fun y => y.key kind a b) := by
  rw [take_succ_some h, List.filter_append]; simp [hk]
set_option maxRecDepth 100000 in set_option maxHeartbeats 1000000 in
theorem of1_in (F : Fence) (n : Nat) (hf : F.fn 42) (hro : F.round = none) (hn : 1 ≤ n) (l Bt Bk Ba Bb n₀ : Nat) (sv : Value) (ws : List Win) (kind a b : Int) (J Jx : List Win → World → Prop)
    (hY : ∀ pre x W, J pre W → pre.length < ws.length → YieldAt F (n - 1) Try.prog l #[.agg #[.int .i64 x.k, .int .i64 x.a, .int .i64 x.b, .int .i64 x.f, .int .i64 x.u, .int .i64 x.r]] W fun e W' =>
      (e = .returned (.bool true) ∧ J (pre ++ [x]) W' ∧ Below n₀ W W') ∨ (e = .returned (.bool false) ∧ Jx (pre ++ [x]) W'))
    (W : World) (hJ : AbidesFrom W.heap.size J) (hn₀ : n₀ ≤ W.heap.size) (hBt : W.cell? ⟨Bt, 0, none⟩ = some sv) (hBk : W.cell? ⟨Bk, 0, none⟩ = some (.int .i64 kind)) (hBa : W.cell? ⟨Ba, 0, none⟩ = some (.int .i64 a)) (hBb : W.cell? ⟨Bb, 0, none⟩ = some (.int .i64 b))
    (hk0 : Bk < n₀) (ha0 : Ba < n₀) (hb0 : Bb < n₀) (hI : Wins (fun k => k < n₀) W sv ws) (h0 : J [] W) :
    CallsIn F n Try.prog 42 #[.func (.yield l) #[] #[], .pointer (some ⟨Bt, 0, none⟩), .pointer (some ⟨Bk, 0, none⟩), .pointer (some ⟨Ba, 0, none⟩), .pointer (some ⟨Bb, 0, none⟩)] W fun e W' => (∃ v, e = .returned v) ∧
      ((∃ ys, ys = ws.filter (fun x => x.key kind a b) ∧ J ys W') ∨ (∃ pre, (∃ k, k ≤ ws.length ∧ pre = (ws.take k).filter (fun x => x.key kind a b)) ∧ Jx pre W')) := by
  obtain ⟨sa, cap, rfl, hcap, hcm, hel⟩ := hI
  unfold maxLen at hcm
  generalize hll : ws.length = m at *
  refine callsIn_of_wp Try.func42 rfl hf ?_ hro
  simp only [Try.ntmps42, List.size_toArray, List.length_cons, List.length_nil, Nat.reduceAdd, Nat.reduceSub, Array.replicate_succ, Array.replicate_zero, List.push_toArray, List.append_toArray, List.nil_append, List.cons_append]
  gi_wp2
  have HEL := hid hel; clear hel
  gi_loopw [10] (fun i wr => ∃ k : Nat, k ≤ m ∧ i = .int .i64 k ∧ J ((ws.take k).filter (fun x => x.key kind a b)) wr ∧ Below n₀ W wr) (fun i _ => m - (intOf i).toNat)
  case atStart => exact ⟨0, Nat.zero_le _, rfl, h0, Below.refl _ _⟩
  case round =>
    obtain ⟨k, hk, rfl, hJs, hnx⟩ := hrel
    by_cases hlt : k < m
    · obtain ⟨bb, o, x, rfl, hb1, hb2, hx, c0, c1, c2, c3, c4, c5⟩ := HEL.out k hlt
      have f0 := (hnx.cell (p := ⟨bb, o + k * 6, none⟩) hb1).trans c0
      have f1 := (hnx.cell (p := ⟨bb, o + k * 6 + 1, none⟩) hb1).trans c1
      have f2 := (hnx.cell (p := ⟨bb, o + k * 6 + 2, none⟩) hb1).trans c2
      have f3 := (hnx.cell (p := ⟨bb, o + k * 6 + 3, none⟩) hb1).trans c3
      have f4 := (hnx.cell (p := ⟨bb, o + k * 6 + 4, none⟩) hb1).trans c4
      have f5 := (hnx.cell (p := ⟨bb, o + k * 6 + 5, none⟩) hb1).trans c5
      have gk := (hnx.cell (p := ⟨Bk, 0, none⟩) hk0).trans hBk
      have ga := (hnx.cell (p := ⟨Ba, 0, none⟩) ha0).trans hBa
      have gb := (hnx.cell (p := ⟨Bb, 0, none⟩) hb0).trans hBb
      have k1 : (k : Int) < m := by omega
      have k2 : (0 : Int) ≤ k := by omega
      have zw := hnx.size
      have hJa : ∀ o, J ((ws.take k).filter (fun x => x.key kind a b)) (wr.alloc o) := fun o => hJ _ _ _ none hJs (World.grownBy_alloc wr o none) (by simp)
      have hBa2 : ∀ o, Below n₀ W (wr.alloc o) := fun o => hnx.alloc (by omega) o
      have nk := World.new_ne wr _ gk
      have na := World.new_ne wr _ ga
      have nb := World.new_ne wr _ gb
      have gk1 := fun o => keep_cell (keeps_alloc (fun _ => False) wr o) (fun h => h) gk
      have ga1 := fun o => keep_cell (keeps_alloc (fun _ => False) wr o) (fun h => h) ga
      have gb1 := fun o => keep_cell (keeps_alloc (fun _ => False) wr o) (fun h => h) gb
      have HX := hid hx
      clear c0 c1 c2 c3 c4 c5 hx
      by_cases e0 : x.k = kind
      · have t0 : (x.k == kind) = true := by simp; exact e0
        by_cases e1 : x.a = a
        · have t1 : (x.a == a) = true := by simp; exact e1
          by_cases e2 : x.b = b
          · have t2 : (x.b == b) = true := by simp; exact e2
            have hkey : x.key kind a b = true := by simp [Win.key, e0, e1, e2]
            obtain ⟨fn, tmps, assign, body, hy, hR⟩ := hY _ x (wr.alloc (.cells #[.int .i64 x.k, .int .i64 x.a, .int .i64 x.b, .int .i64 x.f, .int .i64 x.u, .int .i64 x.r] 54)) (hJa _) (by have h1 := List.length_filter_le (fun x : Win => x.key kind a b) (ws.take k); rw [List.length_take] at h1; omega)
            clear e0 e1 e2
            gi_wp2
            refine hR.mono ?_
            rintro e W3 (⟨rfl, hJ3, hk3⟩ | ⟨rfl, hJx3⟩)
            · gi_wp2
              go_roundw
              case rel => exact ⟨k + 1, by omega, by simp, by rw [filter_yes HX.out hkey]; exact hJ3, (hBa2 _).trans hk3⟩
              case measure => simp [intOf]; omega
            · gi_wp2
              refine bodyPost_ret (results_none rfl _ _ _) rfl ?_
              exact ⟨⟨_, rfl⟩, .inr ⟨_, ⟨k + 1, by omega, (filter_yes HX.out hkey).symm⟩, hJx3⟩⟩
          · have t2 : (x.b == b) = false := by simp; exact e2
            have hkey : x.key kind a b = false := by simp [Win.key, e2]
            clear e0 e1 e2
            gi_wp2
            refine ⟨fun _ h => (by cases h), ?_⟩
            gi_wp2
            go_roundw
            case rel => exact ⟨k + 1, by omega, by simp, by rw [filter_no HX.out hkey]; exact hJa _, hBa2 _⟩
            case measure => simp [intOf]; omega
        · have t1 : (x.a == a) = false := by simp; exact e1
          have hkey : x.key kind a b = false := by simp [Win.key, e1]
          clear e0 e1
          gi_wp2
          refine ⟨fun _ h => (by cases h), ?_⟩
          gi_wp2
          go_roundw
          case rel => exact ⟨k + 1, by omega, by simp, by rw [filter_no HX.out hkey]; exact hJa _, hBa2 _⟩
          case measure => simp [intOf]; omega
      · have t0 : (x.k == kind) = false := by simp; exact e0
        have hkey : x.key kind a b = false := by simp [Win.key, e0]
        clear e0
        gi_wp2
        refine ⟨fun _ h => (by cases h), ?_⟩
        gi_wp2
        go_roundw
        case rel => exact ⟨k + 1, by omega, by simp, by rw [filter_no HX.out hkey]; exact hJa _, hBa2 _⟩
        case measure => simp [intOf]; omega
    · obtain rfl : k = m := by omega
      gi_wp2
      go_end0
      exact ⟨⟨_, rfl⟩, .inl ⟨_, by rw [← hll, List.take_length], hJs⟩⟩
set_option maxRecDepth 100000 in set_option maxHeartbeats 1000000 in
theorem of_in (F : Fence) (n : Nat) (hf : F.fn 41) (hro : F.round = none) (sa : Option Addr) (len cap : Nat) (kind a b : Int) (w : World) :
    CallsIn F n Try.prog 41 #[.slice sa len cap, .int .i64 kind, .int .i64 a, .int .i64 b] w fun e w' => e = .returned (.func (.func 42) #[] #[.pointer (some ⟨w.heap.size, 0, none⟩), .pointer (some ⟨w.heap.size + 1, 0, none⟩), .pointer (some ⟨w.heap.size + 1 + 1, 0, none⟩), .pointer (some ⟨w.heap.size + 1 + 1 + 1, 0, none⟩)]) ∧
      w' = (((w.alloc (.cells #[.slice sa len cap] 24)).alloc (.cells #[.int .i64 kind] 3)).alloc (.cells #[.int .i64 a] 3)).alloc (.cells #[.int .i64 b] 3) := by
  refine callsIn_of_wp Try.func41 rfl hf ?_ hro
  simp only [Try.ntmps41, List.size_toArray, List.length_cons, List.length_nil, Nat.reduceAdd, Nat.reduceSub, Array.replicate_succ, Array.replicate_zero, List.push_toArray, List.append_toArray, List.nil_append, List.cons_append]
  gi_wp2
  go_ret
  exact ⟨rfl, rfl⟩
theorem Wins.below {n₀ : Nat} {A B : World} {v : Value} {l : List Win} (h : Wins (fun k => k < n₀) A v l) (hb : Below n₀ A B) (_ : n₀ ≤ A.heap.size) : Wins (fun k => k < n₀) B v l :=
  h.keep (Keeps.of_below hb) (fun b _ h1 h2 => by omega)
theorem of_stops (F : Fence) (n : Nat) (hf : F.fn 42) (hro : F.round = none) (hn : 1 ≤ n) (B0 : Nat) (sv : Value) (ws : List Win) (kind a b : Int) (w : World) (hB : B0 + 4 ≤ w.heap.size)
    (hBt : w.cell? ⟨B0, 0, none⟩ = some sv) (hBk : w.cell? ⟨B0 + 1, 0, none⟩ = some (.int .i64 kind)) (hBa : w.cell? ⟨B0 + 1 + 1, 0, none⟩ = some (.int .i64 a)) (hBb : w.cell? ⟨B0 + 1 + 1 + 1, 0, none⟩ = some (.int .i64 b)) (hI : Wins (fun k => k < w.heap.size) w sv ws) :
    SeqStopsK F n Try.prog 42 #[.pointer (some ⟨B0, 0, none⟩), .pointer (some ⟨B0 + 1, 0, none⟩), .pointer (some ⟨B0 + 1 + 1, 0, none⟩), .pointer (some ⟨B0 + 1 + 1 + 1, 0, none⟩)] (fun x : Win => #[.agg #[.int .i64 x.k, .int .i64 x.a, .int .i64 x.b, .int .i64 x.f, .int .i64 x.u, .int .i64 x.r]]) (Below w.heap.size)
      (fun ys => ys = ws.filter (fun x => x.key kind a b)) (fun pre => ∃ k, k ≤ ws.length ∧ pre = (ws.take k).filter (fun x => x.key kind a b)) ws.length w := fun l J Jx W hW hJ _ hY h0 =>
  of1_in F n hf hro hn l B0 (B0 + 1) (B0 + 1 + 1) (B0 + 1 + 1 + 1) w.heap.size sv ws kind a b J Jx hY W hJ hW.size ((hW.cell (p := ⟨B0, 0, none⟩) (by show B0 < _; omega)).trans hBt) ((hW.cell (p := ⟨B0 + 1, 0, none⟩) (by show B0 + 1 < _; omega)).trans hBk) ((hW.cell (p := ⟨B0 + 1 + 1, 0, none⟩) (by show B0 + 1 + 1 < _; omega)).trans hBa) ((hW.cell (p := ⟨B0 + 1 + 1 + 1, 0, none⟩) (by show B0 + 1 + 1 + 1 < _; omega)).trans hBb) (by omega) (by omega) (by omega) (hI.below hW (Nat.le_refl _)) h0
end Go.Proofs.Ytjapmpolagblaaa
