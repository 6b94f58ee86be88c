/- Custody: LinkA, LinkB, LinkC, LinkD, LinkE: walks and plain facts. -/
import Derived.Test.YtgfekgceeigdiaaDoorChecked
import Derived.Test.YtgfekgceeigdiaaDoorBaseAll
import Derived.RangeFuncNested
import Derived.RangeFuncBound
import Derived.RangeFuncLeaves
import Derived.Shelf.Abstract
import Derived.WalkKit
import Derived.OwnWalkIn
import Derived.TacticsInMore
import Derived.LoopNIn
import Derived.LoopIn
import Derived.Deep.RegionHeld
import Derived.Deep.Cut
import Derived.Laws.OwnMore
import Derived.Deep.DrawnRows
namespace Go.Proofs.YtgfekgceeigdiaaDoor.Li
open Go.RowKit Go.Shelf
attribute [local go_sem] Oper.semAt_some

structure Win where
  k : Int
  a : Int
  b : Int
  f : Int
  u : Int
  r : Int
/-- a slice of windows -/
def Wins (K : Nat → Prop) (w : World) (v : Value) (l : List Win) : Prop := ∃ a cap, v = .slice a l.length cap ∧ l.length ≤ cap ∧ cap ≤ maxLen ∧
  (∀ k, k < l.length → ∃ b o x, a = some ⟨b, o, none⟩ ∧ K b ∧ b < w.heap.size ∧ l[k]? = some x ∧ w.cell? ⟨b, o + k * 6, none⟩ = some (.int .i64 x.k) ∧ w.cell? ⟨b, o + k * 6 + 1, none⟩ = some (.int .i64 x.a) ∧ w.cell? ⟨b, o + k * 6 + 2, none⟩ = some (.int .i64 x.b) ∧
    w.cell? ⟨b, o + k * 6 + 3, none⟩ = some (.int .i64 x.f) ∧ w.cell? ⟨b, o + k * 6 + 4, none⟩ = some (.int .i64 x.u) ∧ w.cell? ⟨b, o + k * 6 + 5, none⟩ = some (.int .i64 x.r))
theorem Wins.keep {K S : Nat → Prop} {w w' : World} {v : Value} {l : List Win} (h : Wins K w v l) (hk : Keeps S w w') (hd : ∀ b, b < w.heap.size → K b → ¬ S b) : Wins K w' v l := by
  obtain ⟨a, cap, h1, h2, h3, h4⟩ := h
  refine ⟨a, cap, h1, h2, h3, fun k hkk => ?_⟩
  obtain ⟨b, o, x, g1, g2, g3, g4, c0, c1, c2, c3, c4, c5⟩ := h4 k hkk
  have hs := hd b g3 g2
  exact ⟨b, o, x, g1, g2, Nat.lt_of_lt_of_le g3 hk.size, g4, keep_cell hk hs c0, keep_cell hk hs c1, keep_cell hk hs c2, keep_cell hk hs c3, keep_cell hk hs c4, keep_cell hk hs c5⟩
theorem Wins.mono {K K' : Nat → Prop} {w : World} {v : Value} {l : List Win} (h : Wins K w v l) (hd : ∀ b, b < w.heap.size → K b → K' b) : Wins K' w v l := by
  obtain ⟨a, cap, h1, h2, h3, h4⟩ := h
  refine ⟨a, cap, h1, h2, h3, fun k hkk => ?_⟩
  obtain ⟨b, o, x, g1, g2, g3, g4⟩ := h4 k hkk
  exact ⟨b, o, x, g1, hd b g3 g2, g3, g4⟩
def Win.key (x : Win) (kind a b : Int) : Bool := x.k == kind && x.a == a && x.b == b
theorem take_succ_some {α : Type} {l : List α} {k : Nat} {x : α} (h : l[k]? = some x) : l.take (k + 1) = l.take k ++ [x] := by rw [List.take_add_one, h]; rfl
theorem filter_yes {l : List Win} {k : Nat} {x : Win} {kind a b : Int} (h : l[k]? = some x) (hk : x.key kind a b = true) : (l.take (k + 1)).filter (fun y => y.key kind a b) = (l.take k).filter (fun y => y.key kind a b) ++ [x] := by
  rw [take_succ_some h, List.filter_append]; simp [hk]
theorem filter_no {l : List Win} {k : Nat} {x : Win} {kind a b : Int} (h : l[k]? = some x) (hk : x.key kind a b = false) : (l.take (k + 1)).filter (fun y => y.key kind a b) = (l.take k).filter (fun y => y.key kind a b) := by
  rw [take_succ_some h, List.filter_append]; simp [hk]
set_option maxRecDepth 100000 in set_option maxHeartbeats 1000000 in
theorem of1_in (F : Fence) (n : Nat) (hf : F.fn 92) (hro : F.round = none) (hn : 1 ≤ n) (l Bt Bk Ba Bb n₀ : Nat) (sv : Value) (ws : List Win) (kind a b : Int) (J Jx : List Win → World → Prop)
    (hY : ∀ pre x W, J pre W → pre.length < ws.length → YieldAt F (n - 1) Tryd.prog l #[.agg #[.int .i64 x.k, .int .i64 x.a, .int .i64 x.b, .int .i64 x.f, .int .i64 x.u, .int .i64 x.r]] W fun e W' =>
      (e = .returned (.bool true) ∧ J (pre ++ [x]) W' ∧ Below n₀ W W') ∨ (e = .returned (.bool false) ∧ Jx (pre ++ [x]) W'))
    (W : World) (hJ : AbidesFrom W.heap.size J) (hn₀ : n₀ ≤ W.heap.size) (hBt : W.cell? ⟨Bt, 0, none⟩ = some sv) (hBk : W.cell? ⟨Bk, 0, none⟩ = some (.int .i64 kind)) (hBa : W.cell? ⟨Ba, 0, none⟩ = some (.int .i64 a)) (hBb : W.cell? ⟨Bb, 0, none⟩ = some (.int .i64 b))
    (hk0 : Bk < n₀) (ha0 : Ba < n₀) (hb0 : Bb < n₀) (hI : Wins (fun k => k < n₀) W sv ws) (h0 : J [] W) :
    CallsIn F n Tryd.prog 92 #[.func (.yield l) #[] #[], .pointer (some ⟨Bt, 0, none⟩), .pointer (some ⟨Bk, 0, none⟩), .pointer (some ⟨Ba, 0, none⟩), .pointer (some ⟨Bb, 0, none⟩)] W fun e W' => (∃ v, e = .returned v) ∧
      ((∃ ys, ys = ws.filter (fun x => x.key kind a b) ∧ J ys W') ∨ (∃ pre, (∃ k, k ≤ ws.length ∧ pre = (ws.take k).filter (fun x => x.key kind a b)) ∧ Jx pre W')) := by
  obtain ⟨sa, cap, rfl, hcap, hcm, hel⟩ := hI
  unfold maxLen at hcm
  generalize hll : ws.length = m at *
  refine callsIn_of_wp Tryd.func92 rfl hf ?_ hro
  simp only [Tryd.ntmps92, List.size_toArray, List.length_cons, List.length_nil, Nat.reduceAdd, Nat.reduceSub, Array.replicate_succ, Array.replicate_zero, List.push_toArray, List.append_toArray, List.nil_append, List.cons_append]
  gi_wp2
  have HEL := hid hel; clear hel
  gi_loopw [10] (fun i wr => ∃ k : Nat, k ≤ m ∧ i = .int .i64 k ∧ J ((ws.take k).filter (fun x => x.key kind a b)) wr ∧ Below n₀ W wr) (fun i _ => m - (intOf i).toNat)
  case atStart => exact ⟨0, Nat.zero_le _, rfl, h0, Below.refl _ _⟩
  case round =>
    obtain ⟨k, hk, rfl, hJs, hnx⟩ := hrel
    by_cases hlt : k < m
    · obtain ⟨bb, o, x, rfl, hb1, hb2, hx, c0, c1, c2, c3, c4, c5⟩ := HEL.out k hlt
      have f0 := (hnx.cell (p := ⟨bb, o + k * 6, none⟩) hb1).trans c0
      have f1 := (hnx.cell (p := ⟨bb, o + k * 6 + 1, none⟩) hb1).trans c1
      have f2 := (hnx.cell (p := ⟨bb, o + k * 6 + 2, none⟩) hb1).trans c2
      have f3 := (hnx.cell (p := ⟨bb, o + k * 6 + 3, none⟩) hb1).trans c3
      have f4 := (hnx.cell (p := ⟨bb, o + k * 6 + 4, none⟩) hb1).trans c4
      have f5 := (hnx.cell (p := ⟨bb, o + k * 6 + 5, none⟩) hb1).trans c5
      have gk := (hnx.cell (p := ⟨Bk, 0, none⟩) hk0).trans hBk
      have ga := (hnx.cell (p := ⟨Ba, 0, none⟩) ha0).trans hBa
      have gb := (hnx.cell (p := ⟨Bb, 0, none⟩) hb0).trans hBb
      have k1 : (k : Int) < m := by omega
      have k2 : (0 : Int) ≤ k := by omega
      have zw := hnx.size
      have hJa : ∀ o, J ((ws.take k).filter (fun x => x.key kind a b)) (wr.alloc o) := fun o => hJ _ _ _ none hJs (World.grownBy_alloc wr o none) (by simp)
      have hBa2 : ∀ o, Below n₀ W (wr.alloc o) := fun o => hnx.alloc (by omega) o
      have nk := World.new_ne wr _ gk
      have na := World.new_ne wr _ ga
      have nb := World.new_ne wr _ gb
      have gk1 := fun o => keep_cell (keeps_alloc (fun _ => False) wr o) (fun h => h) gk
      have ga1 := fun o => keep_cell (keeps_alloc (fun _ => False) wr o) (fun h => h) ga
      have gb1 := fun o => keep_cell (keeps_alloc (fun _ => False) wr o) (fun h => h) gb
      have HX := hid hx
      clear c0 c1 c2 c3 c4 c5 hx
      by_cases e0 : x.k = kind
      · have t0 : (x.k == kind) = true := by simp; exact e0
        by_cases e1 : x.a = a
        · have t1 : (x.a == a) = true := by simp; exact e1
          by_cases e2 : x.b = b
          · have t2 : (x.b == b) = true := by simp; exact e2
            have hkey : x.key kind a b = true := by simp [Win.key, e0, e1, e2]
            obtain ⟨fn, tmps, assign, body, hy, hR⟩ := hY _ x (wr.alloc (.cells #[.int .i64 x.k, .int .i64 x.a, .int .i64 x.b, .int .i64 x.f, .int .i64 x.u, .int .i64 x.r] 146)) (hJa _) (by have h1 := List.length_filter_le (fun x : Win => x.key kind a b) (ws.take k); rw [List.length_take] at h1; omega)
            clear e0 e1 e2
            gi_wp2
            refine hR.mono ?_
            rintro e W3 (⟨rfl, hJ3, hk3⟩ | ⟨rfl, hJx3⟩)
            · gi_wp2
              go_roundw
              case rel => exact ⟨k + 1, by omega, by simp, by rw [filter_yes HX.out hkey]; exact hJ3, (hBa2 _).trans hk3⟩
              case measure => simp [intOf]; omega
            · gi_wp2
              refine bodyPost_ret (results_none rfl _ _ _) rfl ?_
              exact ⟨⟨_, rfl⟩, .inr ⟨_, ⟨k + 1, by omega, (filter_yes HX.out hkey).symm⟩, hJx3⟩⟩
          · have t2 : (x.b == b) = false := by simp; exact e2
            have hkey : x.key kind a b = false := by simp [Win.key, e2]
            clear e0 e1 e2
            gi_wp2
            refine ⟨fun _ h => (by cases h), ?_⟩
            gi_wp2
            go_roundw
            case rel => exact ⟨k + 1, by omega, by simp, by rw [filter_no HX.out hkey]; exact hJa _, hBa2 _⟩
            case measure => simp [intOf]; omega
        · have t1 : (x.a == a) = false := by simp; exact e1
          have hkey : x.key kind a b = false := by simp [Win.key, e1]
          clear e0 e1
          gi_wp2
          refine ⟨fun _ h => (by cases h), ?_⟩
          gi_wp2
          go_roundw
          case rel => exact ⟨k + 1, by omega, by simp, by rw [filter_no HX.out hkey]; exact hJa _, hBa2 _⟩
          case measure => simp [intOf]; omega
      · have t0 : (x.k == kind) = false := by simp; exact e0
        have hkey : x.key kind a b = false := by simp [Win.key, e0]
        clear e0
        gi_wp2
        refine ⟨fun _ h => (by cases h), ?_⟩
        gi_wp2
        go_roundw
        case rel => exact ⟨k + 1, by omega, by simp, by rw [filter_no HX.out hkey]; exact hJa _, hBa2 _⟩
        case measure => simp [intOf]; omega
    · obtain rfl : k = m := by omega
      gi_wp2
      go_end0
      exact ⟨⟨_, rfl⟩, .inl ⟨_, by rw [← hll, List.take_length], hJs⟩⟩
set_option maxRecDepth 100000 in set_option maxHeartbeats 1000000 in
theorem of_in (F : Fence) (n : Nat) (hf : F.fn 91) (hro : F.round = none) (sa : Option Addr) (len cap : Nat) (kind a b : Int) (w : World) :
    CallsIn F n Tryd.prog 91 #[.slice sa len cap, .int .i64 kind, .int .i64 a, .int .i64 b] w fun e w' => e = .returned (.func (.func 92) #[] #[.pointer (some ⟨w.heap.size, 0, none⟩), .pointer (some ⟨w.heap.size + 1, 0, none⟩), .pointer (some ⟨w.heap.size + 1 + 1, 0, none⟩), .pointer (some ⟨w.heap.size + 1 + 1 + 1, 0, none⟩)]) ∧
      w' = (((w.alloc (.cells #[.slice sa len cap] 121)).alloc (.cells #[.int .i64 kind] 3)).alloc (.cells #[.int .i64 a] 3)).alloc (.cells #[.int .i64 b] 3) := by
  refine callsIn_of_wp Tryd.func91 rfl hf ?_ hro
  simp only [Tryd.ntmps91, List.size_toArray, List.length_cons, List.length_nil, Nat.reduceAdd, Nat.reduceSub, Array.replicate_succ, Array.replicate_zero, List.push_toArray, List.append_toArray, List.nil_append, List.cons_append]
  gi_wp2
  go_ret
  exact ⟨rfl, rfl⟩
theorem Wins.below {n₀ : Nat} {A B : World} {v : Value} {l : List Win} (h : Wins (fun k => k < n₀) A v l) (hb : Below n₀ A B) (_ : n₀ ≤ A.heap.size) : Wins (fun k => k < n₀) B v l :=
  h.keep (Keeps.of_below hb) (fun b _ h1 h2 => by omega)
theorem of_stops (F : Fence) (n : Nat) (hf : F.fn 92) (hro : F.round = none) (hn : 1 ≤ n) (B0 : Nat) (sv : Value) (ws : List Win) (kind a b : Int) (w : World) (hB : B0 + 4 ≤ w.heap.size)
    (hBt : w.cell? ⟨B0, 0, none⟩ = some sv) (hBk : w.cell? ⟨B0 + 1, 0, none⟩ = some (.int .i64 kind)) (hBa : w.cell? ⟨B0 + 1 + 1, 0, none⟩ = some (.int .i64 a)) (hBb : w.cell? ⟨B0 + 1 + 1 + 1, 0, none⟩ = some (.int .i64 b)) (hI : Wins (fun k => k < w.heap.size) w sv ws) :
    SeqStopsK F n Tryd.prog 92 #[.pointer (some ⟨B0, 0, none⟩), .pointer (some ⟨B0 + 1, 0, none⟩), .pointer (some ⟨B0 + 1 + 1, 0, none⟩), .pointer (some ⟨B0 + 1 + 1 + 1, 0, none⟩)] (fun x : Win => #[.agg #[.int .i64 x.k, .int .i64 x.a, .int .i64 x.b, .int .i64 x.f, .int .i64 x.u, .int .i64 x.r]]) (Below w.heap.size)
      (fun ys => ys = ws.filter (fun x => x.key kind a b)) (fun pre => ∃ k, k ≤ ws.length ∧ pre = (ws.take k).filter (fun x => x.key kind a b)) ws.length w := fun l J Jx W hW hJ _ hY h0 =>
  of1_in F n hf hro hn l B0 (B0 + 1) (B0 + 1 + 1) (B0 + 1 + 1 + 1) w.heap.size sv ws kind a b J Jx hY W hJ hW.size ((hW.cell (p := ⟨B0, 0, none⟩) (by show B0 < _; omega)).trans hBt) ((hW.cell (p := ⟨B0 + 1, 0, none⟩) (by show B0 + 1 < _; omega)).trans hBk) ((hW.cell (p := ⟨B0 + 1 + 1, 0, none⟩) (by show B0 + 1 + 1 < _; omega)).trans hBa) ((hW.cell (p := ⟨B0 + 1 + 1 + 1, 0, none⟩) (by show B0 + 1 + 1 + 1 < _; omega)).trans hBb) (by omega) (by omega) (by omega) (hI.below hW (Nat.le_refl _)) h0
end Go.Proofs.YtgfekgceeigdiaaDoor.Li
namespace Go.Proofs.YtgfekgceeigdiaaDoor.Li
open Go.RowKit Go.Shelf
attribute [local go_sem] Oper.semAt_some
def Win.nil : Win := ⟨0, 0, 0, 0, 0, 0⟩
def nextW (ws : List Win) (kind a b tick : Int) : Option Win := (ws.filter (fun x => x.key kind a b)).find? (fun x => decide (tick < x.u))
def NextPost : Option Win → Ending → Prop
  | some x, e => e = .returned (.tuple #[.agg #[.int .i64 x.k, .int .i64 x.a, .int .i64 x.b, .int .i64 x.f, .int .i64 x.u, .int .i64 x.r], .bool true])
  | none, e => e = .returned (.tuple #[.agg #[.int .i64 0, .int .i64 0, .int .i64 0, .int .i64 0, .int .i64 0, .int .i64 0], .bool false])
theorem blk_own {β : Type} (B : Nat) (t : TypeId) (f : β → Array Value) : Go.Own (fun s W => Blk W B (f s) t) := fun s X Y row hs hg hrow => by
  refine (hg.block B (blk_lt hs) (fun e' => ?_)).trans hs
  obtain ⟨o, ho, hc⟩ := hrow B e'.symm
  rw [show X.heap[B]? = _ from hs] at ho; cases ho; cases hc
set_option maxRecDepth 100000 in set_option maxHeartbeats 1000000 in
theorem Next_in (F : Fence) (n : Nat) (hf : F.fn 90) (hf1 : F.fn 91) (hf2 : F.fn 92) (hro : F.round = none) (hn : 3 ≤ n) (v : Value) (ws : List Win) (kind a b tick : Int) (w : World) (hv : Wins (fun k => k < w.heap.size) w v ws) :
    CallsIn F n Tryd.prog 90 #[v, .int .i64 kind, .int .i64 a, .int .i64 b, .int .i64 tick] w fun e W' => NextPost (nextW ws kind a b tick) e ∧ Below w.heap.size w W' := by
  have h1 : 1 ≤ n := by omega
  have hv0 := hv
  obtain ⟨sa, cap, rfl, hcap, hcm, hel⟩ := hv
  unfold maxLen at hcm
  have HEL := hid hel; clear hel
  have HV := hid hv0; clear hv0
  generalize hll : ws.length = m at *
  refine callsIn_of_wp_marks Tryd.func90 rfl hf ?_ hro
  simp only [Tryd.ntmps90, List.size_toArray, List.length_cons, List.length_nil, Nat.reduceAdd, Nat.reduceSub, Array.replicate_succ, Array.replicate_zero, List.push_toArray, List.append_toArray, List.nil_append, List.cons_append]
  gi_wp2_with (gi_at_call 91; refine (of_in F (n - 1) hf1 hro _ _ _ _ _ _ _).mono ?_; rintro e w' ⟨rfl, rfl⟩)
  obtain ⟨W0, hW0⟩ : ∃ W0, (((((((w.alloc (.cells #[.int .i64 tick] 3)).alloc (.cells #[.int .i64 0, .int .i64 0, .int .i64 0, .int .i64 0, .int .i64 0, .int .i64 0] 146)).alloc (.cells #[.bool false] 4)).alloc (.cells #[.slice sa m cap] 121)).alloc (.cells #[.int .i64 kind] 3)).alloc (.cells #[.int .i64 a] 3)).alloc (.cells #[.int .i64 b] 3)) = W0 := ⟨_, rfl⟩
  have b0 : Blk W0 w.heap.size #[.int .i64 tick] 3 := by rw [← hW0]; exact blk_alloc (blk_alloc (blk_alloc (blk_alloc (blk_alloc (blk_alloc (blk_new w _ _) _) _) _) _) _) _
  have b1 : Blk W0 (w.heap.size + 1) #[.int .i64 0, .int .i64 0, .int .i64 0, .int .i64 0, .int .i64 0, .int .i64 0] 146 := by rw [← hW0]; exact blk_alloc (blk_alloc (blk_alloc (blk_alloc (blk_alloc (blk_new' _ _ _ _ (by simp)) _) _) _) _) _
  have b2 : Blk W0 (w.heap.size + 1 + 1) #[.bool false] 4 := by rw [← hW0]; exact blk_alloc (blk_alloc (blk_alloc (blk_alloc (blk_new' _ _ _ _ (by simp)) _) _) _) _
  have b3 : Blk W0 (w.heap.size + 1 + 1 + 1) #[.slice sa m cap] 121 := by rw [← hW0]; exact blk_alloc (blk_alloc (blk_alloc (blk_new' _ _ _ _ (by simp)) _) _) _
  have b4 : Blk W0 (w.heap.size + 1 + 1 + 1 + 1) #[.int .i64 kind] 3 := by rw [← hW0]; exact blk_alloc (blk_alloc (blk_new' _ _ _ _ (by simp)) _) _
  have b5 : Blk W0 (w.heap.size + 1 + 1 + 1 + 1 + 1) #[.int .i64 a] 3 := by rw [← hW0]; exact blk_alloc (blk_new' _ _ _ _ (by simp)) _
  have b6 : Blk W0 (w.heap.size + 1 + 1 + 1 + 1 + 1 + 1) #[.int .i64 b] 3 := by rw [← hW0]; exact blk_new' _ _ _ _ (by simp)
  have k0 : Keeps (fun _ => False) w W0 := by rw [← hW0]; repeat (first | (with_reducible assumption) | (with_reducible exact Keeps.refl _ _) | (with_reducible apply Keeps.drewN) | (with_reducible apply Keeps.drew) | (with_reducible apply Keeps.alloc) | refine Keeps.setCell ?_ (by first | (simp; done) | (simp; omega)) _)
  have hs0 : W0.heap.size = w.heap.size + 7 := by rw [← hW0]; simp
  have hB0 : Below w.heap.size w W0 := k0.below (Nat.le_refl _) (fun _ _ h => h)
  have hI0 : Wins (fun k => k < W0.heap.size) W0 (.slice sa m cap) ws := (HV.out.keep k0 (fun _ _ _ h => h)).mono (fun b h _ => h)
  have hge : w.heap.size + 1 + 1 + 1 + 4 ≤ W0.heap.size := by omega
  have hge2 : w.heap.size ≤ W0.heap.size := by omega
  have HS0 := hid hs0
  clear hs0
  rw [hW0]
  refine wpIn_rangeFunc_ownH hro h1 (gf := 92) (lb := #[.pointer (some ⟨w.heap.size + 1 + 1 + 1, 0, none⟩), .pointer (some ⟨w.heap.size + 1 + 1 + 1 + 1, 0, none⟩), .pointer (some ⟨w.heap.size + 1 + 1 + 1 + 1 + 1, 0, none⟩), .pointer (some ⟨w.heap.size + 1 + 1 + 1 + 1 + 1 + 1, 0, none⟩)]) rfl hf2 (enters_of Tryd.func92 (by kernel_rfl) rfl)
    (of_stops F (n - 1) hf2 hro (by omega) (w.heap.size + 1 + 1 + 1) _ ws kind a b W0 hge (blk_cell b3 0) (blk_cell b4 0) (blk_cell b5 0) (blk_cell b6 0) hI0) belowK_t (belowK_b (Nat.le_refl _)) (Below.refl _ _) (fun _ => rfl)
    (fun pre W => (((∀ y ∈ pre, y.u ≤ tick) ∧ Blk W w.heap.size #[.int .i64 tick] 3) ∧ (Blk W (w.heap.size + 1) #[.int .i64 0, .int .i64 0, .int .i64 0, .int .i64 0, .int .i64 0, .int .i64 0] 146 ∧ Blk W (w.heap.size + 1 + 1) #[.bool false] 4)) ∧ (Below w.heap.size w W ∧ W0.heap.size ≤ W.heap.size))
    (fun c pre W => (c = .ret ∧ ∃ ini last, pre = ini ++ [last] ∧ (∀ y ∈ ini, y.u ≤ tick) ∧ tick < last.u ∧ Blk W (w.heap.size + 1) #[.int .i64 last.k, .int .i64 last.a, .int .i64 last.b, .int .i64 last.f, .int .i64 last.u, .int .i64 last.r] 146 ∧ Blk W (w.heap.size + 1 + 1) #[.bool true] 4) ∧ Below w.heap.size w W)
    (OwnFrom.and (Go.Own.from (fun s A B row hs hg hr => ⟨⟨hs.1.1, blk_own _ _ (fun _ => _) s A B row hs.1.2 hg hr⟩, blk_own _ _ (fun _ => _) s A B row hs.2.1 hg hr, blk_own _ _ (fun _ => _) s A B row hs.2.2 hg hr⟩) _) (OwnFrom.and (ownFrom_below (Nat.le_refl _) hge2) (fun s A B row hs hg hr => Nat.le_trans hs hg.size)))
    (fun c => OwnFrom.and (Go.Own.from (fun s A B row hs hg hr => by obtain ⟨hc, ini, last, e1, e2, e3, e4, e5⟩ := hs; exact ⟨hc, ini, last, e1, e2, e3, blk_own _ _ (fun _ => _) s A B row e4 hg hr, blk_own _ _ (fun _ => _) s A B row e5 hg hr⟩) _) (ownFrom_below (Nat.le_refl _) hge2))
    ⟨⟨⟨by simp, b0⟩, b1, b2⟩, hB0, Nat.le_refl _⟩
    (fun x a' W => ∃ Bx, W0.heap.size ≤ Bx ∧ Blk W Bx #[.int .i64 x.k, .int .i64 x.a, .int .i64 x.b, .int .i64 x.f, .int .i64 x.u, .int .i64 x.r] 146 ∧ a' = { tmps := #[.slice sa m cap, .int .i64 kind, .int .i64 a, .int .i64 b, .int .i64 tick, undef, undef, undef, undef, .pointer (some ⟨w.heap.size, 0, none⟩), .pointer (some ⟨w.heap.size + 1, 0, none⟩), .pointer (some ⟨w.heap.size + 1 + 1, 0, none⟩), .pointer (some ⟨Bx, 0, none⟩), .slice sa m cap, .int .i64 kind, .int .i64 a, .int .i64 b, .func (.func 92) #[] #[.pointer (some ⟨w.heap.size + 1 + 1 + 1, 0, none⟩), .pointer (some ⟨w.heap.size + 1 + 1 + 1 + 1, 0, none⟩), .pointer (some ⟨w.heap.size + 1 + 1 + 1 + 1 + 1, 0, none⟩), .pointer (some ⟨w.heap.size + 1 + 1 + 1 + 1 + 1 + 1, 0, none⟩)], .agg #[.int .i64 x.k, .int .i64 x.a, .int .i64 x.b, .int .i64 x.f, .int .i64 x.u, .int .i64 x.r], undef, undef, undef, undef, undef, undef], defers := [] })
    (fun x a' _ X Y row hs hg hr => by obtain ⟨Bx, h1, h2, h3⟩ := hs; exact ⟨Bx, h1, blk_own Bx _ (fun (_ : Unit) => _) () X Y row h2 hg (fun r e => (hr r e).2), h3⟩)
    ?assign ?body ?done ?stop
  case assign =>
    rintro l pre x W K ⟨⟨⟨p1, p2⟩, p3, p4⟩, p5, p6⟩ hK
    gi_wp2
    exact hK _ _ ((KeepsOthers.alloc _ _).from _) ((Below.refl _ W).alloc p6 _) ⟨⟨⟨p1, blk_alloc p2 _⟩, blk_alloc p3 _, blk_alloc p4 _⟩, p5.alloc p5.size _, by simp; omega⟩ ⟨W.heap.size, p6, blk_new W _ _, rfl⟩
  case body =>
    rintro l pre x a' W hl ⟨r, hr⟩ ⟨⟨⟨p1, p2⟩, p3, p4⟩, p5, p6⟩ ⟨Bx, hBx, bX, rfl⟩ hlt
    have c0 := blk_cell p2 0
    have x0 : W.cell? ⟨Bx, 0, none⟩ = some (.int .i64 x.k) := blk_cell bX 0
    have x1 : W.cell? ⟨Bx, 1, none⟩ = some (.int .i64 x.a) := blk_cell bX 1
    have x2 : W.cell? ⟨Bx, 2, none⟩ = some (.int .i64 x.b) := blk_cell bX 2
    have x3 : W.cell? ⟨Bx, 3, none⟩ = some (.int .i64 x.f) := blk_cell bX 3
    have x4 : W.cell? ⟨Bx, 4, none⟩ = some (.int .i64 x.u) := blk_cell bX 4
    have x5 : W.cell? ⟨Bx, 5, none⟩ = some (.int .i64 x.r) := blk_cell bX 5
    have z0 : W.cell? ⟨w.heap.size + 1, 0, none⟩ = some (.int .i64 0) := blk_cell p3 0
    have y1 : W.cell? ⟨w.heap.size + 1, 1, none⟩ = some (.int .i64 0) := blk_cell p3 1
    have y2 : W.cell? ⟨w.heap.size + 1, 2, none⟩ = some (.int .i64 0) := blk_cell p3 2
    have y3 : W.cell? ⟨w.heap.size + 1, 3, none⟩ = some (.int .i64 0) := blk_cell p3 3
    have y4 : W.cell? ⟨w.heap.size + 1, 4, none⟩ = some (.int .i64 0) := blk_cell p3 4
    have y5 : W.cell? ⟨w.heap.size + 1, 5, none⟩ = some (.int .i64 0) := blk_cell p3 5
    have g0 := blk_free p3 0
    have g1 := blk_free p3 1
    have g2 := blk_free p3 2
    have g3 := blk_free p3 3
    have g4 := blk_free p3 4
    have g5 := blk_free p3 5
    have q0 : W.cell? ⟨w.heap.size + 1 + 1, 0, none⟩ = some (.bool false) := blk_cell p4 0
    have h0 := blk_free p4 0
    have HP1 := hid p1; have HP2 := hid p2; have HP3 := hid p3; have HP4 := hid p4; have HP5 := hid p5
    clear p1 p2 p3 p4 p5 bX
    gi_wp2
    · have hx : tick < x.u := by assumption
      have e1 := blk_other (c := w.heap.size + 1 + 1) (blk_set (blk_set (blk_set (blk_set (blk_set (blk_set HP3.out 0 (.int .i64 x.k)) 1 (.int .i64 x.a)) 2 (.int .i64 x.b)) 3 (.int .i64 x.f)) 4 (.int .i64 x.u)) 5 (.int .i64 x.r)) (by omega) 0 (.bool true)
      have e2 := blk_set (blk_other (c := w.heap.size + 1) (blk_other (c := w.heap.size + 1) (blk_other (c := w.heap.size + 1) (blk_other (c := w.heap.size + 1) (blk_other (c := w.heap.size + 1) (blk_other (c := w.heap.size + 1) HP4.out (by omega) 0 (.int .i64 x.k)) (by omega) 1 (.int .i64 x.a)) (by omega) 2 (.int .i64 x.b)) (by omega) 3 (.int .i64 x.f)) (by omega) 4 (.int .i64 x.u)) (by omega) 5 (.int .i64 x.r)) 0 (.bool true)
      simp only [List.setIfInBounds_toArray, List.set_cons_zero, List.set_cons_succ] at e1 e2
      have key : ∀ (W' : World), KeepsOthers W W' → Below w.heap.size W W' → Blk W' (w.heap.size + 1) #[.int .i64 x.k, .int .i64 x.a, .int .i64 x.b, .int .i64 x.f, .int .i64 x.u, .int .i64 x.r] 146 → Blk W' (w.heap.size + 1 + 1) #[.bool true] 4 →
          KeepsFrom W0.heap.size W W' ∧ ((Code.ret = .ret ∧ ∃ ini last, pre ++ [x] = ini ++ [last] ∧ (∀ y ∈ ini, y.u ≤ tick) ∧ tick < last.u ∧ Blk W' (w.heap.size + 1) #[.int .i64 last.k, .int .i64 last.a, .int .i64 last.b, .int .i64 last.f, .int .i64 last.u, .int .i64 last.r] 146 ∧ Blk W' (w.heap.size + 1 + 1) #[.bool true] 4) ∧ Below w.heap.size w W') :=
        fun W' ho hb e1 e2 => ⟨ho.from _, ⟨rfl, pre, x, rfl, HP1.out, hx, e1, e2⟩, HP5.out.trans hb⟩
      refine key _ ?_ ?_ e1 e2
      · exact ((((((KeepsOthers.setCell _ _ _).trans (KeepsOthers.setCell _ _ _)).trans (KeepsOthers.setCell _ _ _)).trans (KeepsOthers.setCell _ _ _)).trans (KeepsOthers.setCell _ _ _)).trans (KeepsOthers.setCell _ _ _)).trans (KeepsOthers.setCell _ _ _)
      · exact (((((((Below.refl w.heap.size W).setCell (by simp) _).setCell (by simp) _).setCell (by simp) _).setCell (by simp) _).setCell (by simp) _).setCell (by simp) _).setCell (by simp; omega) _
    · have hx : x.u ≤ tick := by omega
      exact ⟨KeepsFrom.refl _ _, Below.refl _ _, ⟨⟨fun y hy => (List.mem_append.1 hy).elim (HP1.out y) (fun e => by simp at e; subst e; exact hx), HP2.out⟩, HP3.out, HP4.out⟩, HP5.out, p6⟩
  case done =>
    rintro D ys W hD rfl ⟨⟨⟨p1, p2⟩, p3, p4⟩, p5, p6⟩ hK
    have hnx : nextW ws kind a b tick = none := by
      unfold nextW
      rw [List.find?_eq_none]; intro y hy; have := p1 y hy; simp; omega
    have y0 : W.cell? ⟨w.heap.size + 1, 0, none⟩ = some (.int .i64 0) := blk_cell p3 0
    have y1 : W.cell? ⟨w.heap.size + 1, 1, none⟩ = some (.int .i64 0) := blk_cell p3 1
    have y2 : W.cell? ⟨w.heap.size + 1, 2, none⟩ = some (.int .i64 0) := blk_cell p3 2
    have y3 : W.cell? ⟨w.heap.size + 1, 3, none⟩ = some (.int .i64 0) := blk_cell p3 3
    have y4 : W.cell? ⟨w.heap.size + 1, 4, none⟩ = some (.int .i64 0) := blk_cell p3 4
    have y5 : W.cell? ⟨w.heap.size + 1, 5, none⟩ = some (.int .i64 0) := blk_cell p3 5
    have g0 := blk_free p3 0
    have g1 := blk_free p3 1
    have g2 := blk_free p3 2
    have g3 := blk_free p3 3
    have g4 := blk_free p3 4
    have g5 := blk_free p3 5
    have q0 : W.cell? ⟨w.heap.size + 1 + 1, 0, none⟩ = some (.bool false) := blk_cell p4 0
    have h0 := blk_free p4 0
    have HP3 := hid p3; have HP4 := hid p4; have HP5 := hid p5
    clear p1 p2 p3 p4 p5
    gi_wp2
    have e1 := blk_other (c := w.heap.size + 1 + 1) (blk_set (blk_set (blk_set (blk_set (blk_set (blk_set HP3.out 0 (.int .i64 0)) 1 (.int .i64 0)) 2 (.int .i64 0)) 3 (.int .i64 0)) 4 (.int .i64 0)) 5 (.int .i64 0)) (by omega) 0 (.bool false)
    have e2 := blk_set (blk_other (c := w.heap.size + 1) (blk_other (c := w.heap.size + 1) (blk_other (c := w.heap.size + 1) (blk_other (c := w.heap.size + 1) (blk_other (c := w.heap.size + 1) (blk_other (c := w.heap.size + 1) HP4.out (by omega) 0 (.int .i64 0)) (by omega) 1 (.int .i64 0)) (by omega) 2 (.int .i64 0)) (by omega) 3 (.int .i64 0)) (by omega) 4 (.int .i64 0)) (by omega) 5 (.int .i64 0)) 0 (.bool false)
    simp only [List.setIfInBounds_toArray, List.set_cons_zero, List.set_cons_succ] at e1 e2
    have hB' := (((((((Below.refl w.heap.size W).setCell (p := ⟨w.heap.size + 1, 0, none⟩) (by simp) (.int .i64 0)).setCell (p := ⟨w.heap.size + 1, 1, none⟩) (by simp) (.int .i64 0)).setCell (p := ⟨w.heap.size + 1, 2, none⟩) (by simp) (.int .i64 0)).setCell (p := ⟨w.heap.size + 1, 3, none⟩) (by simp) (.int .i64 0)).setCell (p := ⟨w.heap.size + 1, 4, none⟩) (by simp) (.int .i64 0)).setCell (p := ⟨w.heap.size + 1, 5, none⟩) (by simp) (.int .i64 0)).setCell (p := ⟨w.heap.size + 1 + 1, 0, none⟩) (by simp; omega) (.bool false)
    have hO' := ((((((KeepsOthers.setCell W ⟨w.heap.size + 1, 0, none⟩ (.int .i64 0)).trans (KeepsOthers.setCell _ ⟨w.heap.size + 1, 1, none⟩ (.int .i64 0))).trans (KeepsOthers.setCell _ ⟨w.heap.size + 1, 2, none⟩ (.int .i64 0))).trans (KeepsOthers.setCell _ ⟨w.heap.size + 1, 3, none⟩ (.int .i64 0))).trans (KeepsOthers.setCell _ ⟨w.heap.size + 1, 4, none⟩ (.int .i64 0))).trans (KeepsOthers.setCell _ ⟨w.heap.size + 1, 5, none⟩ (.int .i64 0))).trans (KeepsOthers.setCell _ ⟨w.heap.size + 1 + 1, 0, none⟩ (.bool false))
    have hK' := hO'.same D _ hK rfl
    clear hO'
    generalize ((((((W.setCell ⟨w.heap.size + 1, 0, none⟩ (.int .i64 0)).setCell ⟨w.heap.size + 1, 1, none⟩ (.int .i64 0)).setCell ⟨w.heap.size + 1, 2, none⟩ (.int .i64 0)).setCell ⟨w.heap.size + 1, 3, none⟩ (.int .i64 0)).setCell ⟨w.heap.size + 1, 4, none⟩ (.int .i64 0)).setCell ⟨w.heap.size + 1, 5, none⟩ (.int .i64 0)).setCell ⟨w.heap.size + 1 + 1, 0, none⟩ (.bool false) = W9 at *
    refine ⟨by simp, .inl ⟨_, _, rfl, run_takeDeferred hK', ?_⟩⟩
    have e7 := blk_own _ _ (fun (_ : Unit) => _) () _ _ _ e1 (grownBy_putObj' _ D (.deferred none)) (fun r e => by cases e; exact ⟨_, hK', rfl⟩)
    have e8 := blk_own _ _ (fun (_ : Unit) => _) () _ _ _ e2 (grownBy_putObj' _ D (.deferred none)) (fun r e => by cases e; exact ⟨_, hK', rfl⟩)
    have c0 : (W9.putObj D (.deferred none)).cell? ⟨w.heap.size + 1, 0, none⟩ = some (.int .i64 0) := blk_cell e7 0
    have c1 : (W9.putObj D (.deferred none)).cell? ⟨w.heap.size + 1, 1, none⟩ = some (.int .i64 0) := blk_cell e7 1
    have c2 : (W9.putObj D (.deferred none)).cell? ⟨w.heap.size + 1, 2, none⟩ = some (.int .i64 0) := blk_cell e7 2
    have c3 : (W9.putObj D (.deferred none)).cell? ⟨w.heap.size + 1, 3, none⟩ = some (.int .i64 0) := blk_cell e7 3
    have c4 : (W9.putObj D (.deferred none)).cell? ⟨w.heap.size + 1, 4, none⟩ = some (.int .i64 0) := blk_cell e7 4
    have c5 : (W9.putObj D (.deferred none)).cell? ⟨w.heap.size + 1, 5, none⟩ = some (.int .i64 0) := blk_cell e7 5
    have c6 : (W9.putObj D (.deferred none)).cell? ⟨w.heap.size + 1 + 1, 0, none⟩ = some (.bool false) := blk_cell e8 0
    refine ⟨.tuple #[.agg #[.int .i64 0, .int .i64 0, .int .i64 0, .int .i64 0, .int .i64 0, .int .i64 0], .bool false], ?_, by rw [hnx]; rfl, (HP5.out.trans hB').trans (belowK_b (w := w) (Nat.le_refl _) W9 D _ _ (by omega) hK' rfl rfl)⟩
    simp [results, Tryd.f90, go_sem, c0, c1, c2, c3, c4, c5, c6]
  case stop =>
    rintro D c pre W hD ⟨k, hk, rfl⟩ ⟨⟨rfl, ini, last, e1, e2, e3, e4, e5⟩, e6⟩ hK
    have hnx : nextW ws kind a b tick = some last := by
      unfold nextW
      conv => lhs; rw [← List.take_append_drop k ws]
      rw [List.filter_append, e1, List.append_assoc, List.find?_append]
      have : ini.find? (fun x => decide (tick < x.u)) = none := by rw [List.find?_eq_none]; intro y hy; have := e2 y hy; simp; omega
      rw [this]; simp [e3]
    gi_wp2
    refine ⟨by simp, .inl ⟨_, _, rfl, run_takeDeferred hK, ?_⟩⟩
    have e7 := blk_own _ _ (fun (_ : Unit) => _) () _ _ _ e4 (grownBy_putObj' _ D (.deferred none)) (fun r e => by cases e; exact ⟨_, hK, rfl⟩)
    have e8 := blk_own _ _ (fun (_ : Unit) => _) () _ _ _ e5 (grownBy_putObj' _ D (.deferred none)) (fun r e => by cases e; exact ⟨_, hK, rfl⟩)
    have c0 : (W.putObj D (.deferred none)).cell? ⟨w.heap.size + 1, 0, none⟩ = some (.int .i64 last.k) := blk_cell e7 0
    have c1 : (W.putObj D (.deferred none)).cell? ⟨w.heap.size + 1, 1, none⟩ = some (.int .i64 last.a) := blk_cell e7 1
    have c2 : (W.putObj D (.deferred none)).cell? ⟨w.heap.size + 1, 2, none⟩ = some (.int .i64 last.b) := blk_cell e7 2
    have c3 : (W.putObj D (.deferred none)).cell? ⟨w.heap.size + 1, 3, none⟩ = some (.int .i64 last.f) := blk_cell e7 3
    have c4 : (W.putObj D (.deferred none)).cell? ⟨w.heap.size + 1, 4, none⟩ = some (.int .i64 last.u) := blk_cell e7 4
    have c5 : (W.putObj D (.deferred none)).cell? ⟨w.heap.size + 1, 5, none⟩ = some (.int .i64 last.r) := blk_cell e7 5
    have c6 : (W.putObj D (.deferred none)).cell? ⟨w.heap.size + 1 + 1, 0, none⟩ = some (.bool true) := blk_cell e8 0
    refine ⟨.tuple #[.agg #[.int .i64 last.k, .int .i64 last.a, .int .i64 last.b, .int .i64 last.f, .int .i64 last.u, .int .i64 last.r], .bool true], ?_, by rw [hnx]; rfl, e6.trans (belowK_b (w := w) (Nat.le_refl _) W D _ _ (by omega) hK rfl rfl)⟩
    simp [results, Tryd.f90, go_sem, c0, c1, c2, c3, c4, c5, c6]
theorem Next_any (v : Value) (ws : List Win) (kind a b tick : Int) (w : World) (hv : Wins (fun k => k < w.heap.size) w v ws) :
    Calls Tryd.prog 90 #[v, .int .i64 kind, .int .i64 a, .int .i64 b, .int .i64 tick] w fun e W' => NextPost (nextW ws kind a b tick) e ∧ Keeps (fun _ => False) w W' := by
  refine ((callsIn_wide (n := 3)).1 (Next_in Fence.wide 3 trivial trivial trivial rfl (Nat.le_refl _) v ws kind a b tick w hv)).mono ?_
  rintro e W' ⟨h1, h2⟩
  exact ⟨h1, (Keeps.of_below h2).mono (fun b hb h => by omega)⟩
end Go.Proofs.YtgfekgceeigdiaaDoor.Li
namespace Go.Proofs.YtgfekgceeigdiaaDoor.Li
open Go.RowKit
def atW (ws : List Win) (kind a b tick : Int) : Option Win := match nextW ws kind a b tick with
  | some x => if x.f ≤ tick then some x else none
  | none => none
theorem fin6 {w W : World} {b : Nat} {T : TypeId} {c0 c1 c2 c3 c4 c5 : Value} (hk : Keeps (fun _ => False) w W) (hb : w.heap.size ≤ b) (hB : Blk W b #[c0, c1, c2, c3, c4, c5] T) (u0 u1 u2 u3 u4 u5 : Value) :
    Keeps (fun _ => False) w ((((((W.setCell ⟨b, 0, none⟩ u0).setCell ⟨b, 1, none⟩ u1).setCell ⟨b, 2, none⟩ u2).setCell ⟨b, 3, none⟩ u3).setCell ⟨b, 4, none⟩ u4).setCell ⟨b, 5, none⟩ u5) ∧
    Blk ((((((W.setCell ⟨b, 0, none⟩ u0).setCell ⟨b, 1, none⟩ u1).setCell ⟨b, 2, none⟩ u2).setCell ⟨b, 3, none⟩ u3).setCell ⟨b, 4, none⟩ u4).setCell ⟨b, 5, none⟩ u5) b #[u0, u1, u2, u3, u4, u5] T := by
  have h := blk_set (blk_set (blk_set (blk_set (blk_set (blk_set hB 0 u0) 1 u1) 2 u2) 3 u3) 4 u4) 5 u5
  simp only [List.setIfInBounds_toArray, List.set_cons_zero, List.set_cons_succ] at h
  exact ⟨(((((hk.setCell (.inr hb) _).setCell (.inr hb) _).setCell (.inr hb) _).setCell (.inr hb) _).setCell (.inr hb) _).setCell (.inr hb) _, h⟩
set_option maxRecDepth 100000 in set_option maxHeartbeats 1000000 in
theorem At_any (v : Value) (ws : List Win) (kind a b tick : Int) (w : World) (hv : Wins (fun k => k < w.heap.size) w v ws) :
    Calls Tryd.prog 87 #[v, .int .i64 kind, .int .i64 a, .int .i64 b, .int .i64 tick] w fun e W' => NextPost (atW ws kind a b tick) e ∧ Keeps (fun _ => False) w W' := by
  have HV := hid hv; clear hv
  have KA := hid (keeps_alloc (fun _ => False) w (.cells #[.int .i64 0, .int .i64 0, .int .i64 0, .int .i64 0, .int .i64 0, .int .i64 0] 146))
  go_enter Tryd.func87, Tryd.ntmps87
  go_wp2_with fail
  refine (Next_any v ws kind a b tick _ ((HV.out.keep KA.out (fun _ _ _ h => h)).mono (fun b h _ => h))).mono ?_
  rintro e w1 ⟨hp, hk⟩
  have B1 : Hd (Blk w1 w.heap.size #[.int .i64 0, .int .i64 0, .int .i64 0, .int .i64 0, .int .i64 0, .int .i64 0] 146) := hid (blk_keep (blk_new w _ _) hk (fun h => h))
  have K1 := hid (KA.out.trans hk)
  have HA : Hd (atW ws kind a b tick = match nextW ws kind a b tick with
    | some x => if x.f ≤ tick then some x else none
    | none => none) := hid rfl
  clear hk KA
  generalize nextW ws kind a b tick = o at *
  cases o with
  | none =>
    obtain rfl := hp
    have HA2 : Hd (atW ws kind a b tick = none) := hid HA.out
    clear HA
    -- TAIL
    go_upto_region 2 with fail
    generalize hW : World.alloc w1 _ = W
    have B2 : Hd (Blk W w.heap.size #[.int .i64 0, .int .i64 0, .int .i64 0, .int .i64 0, .int .i64 0, .int .i64 0] 146) := hid (by rw [← hW]; exact blk_alloc B1.out _)
    have K2 : Hd (Keeps (fun _ => False) w W) := hid (by rw [← hW]; exact K1.out.alloc _)
    clear hW B1 K1
    have o0 : W.cell? ⟨w.heap.size, 0, none⟩ = some (.int .i64 0) := blk_cell B2.out 0
    have f0 : W.frozen? ⟨w.heap.size, 0, none⟩ = false := blk_free B2.out 0
    have o1 : W.cell? ⟨w.heap.size, 1, none⟩ = some (.int .i64 0) := blk_cell B2.out 1
    have f1 : W.frozen? ⟨w.heap.size, 1, none⟩ = false := blk_free B2.out 1
    have o2 : W.cell? ⟨w.heap.size, 2, none⟩ = some (.int .i64 0) := blk_cell B2.out 2
    have f2 : W.frozen? ⟨w.heap.size, 2, none⟩ = false := blk_free B2.out 2
    have o3 : W.cell? ⟨w.heap.size, 3, none⟩ = some (.int .i64 0) := blk_cell B2.out 3
    have f3 : W.frozen? ⟨w.heap.size, 3, none⟩ = false := blk_free B2.out 3
    have o4 : W.cell? ⟨w.heap.size, 4, none⟩ = some (.int .i64 0) := blk_cell B2.out 4
    have f4 : W.frozen? ⟨w.heap.size, 4, none⟩ = false := blk_free B2.out 4
    have o5 : W.cell? ⟨w.heap.size, 5, none⟩ = some (.int .i64 0) := blk_cell B2.out 5
    have f5 : W.frozen? ⟨w.heap.size, 5, none⟩ = false := blk_free B2.out 5
    go_wp2
    obtain ⟨HV2, B3⟩ := fin6 K2.out (Nat.le_refl _) B2.out (.int .i64 0) (.int .i64 0) (.int .i64 0) (.int .i64 0) (.int .i64 0) (.int .i64 0)
    have r0 := blk_cell B3 0
    have r1 := blk_cell B3 1
    have r2 := blk_cell B3 2
    have r3 := blk_cell B3 3
    have r4 := blk_cell B3 4
    have r5 := blk_cell B3 5
    refine bodyPost_ret (v := .tuple #[.agg #[.int .i64 0, .int .i64 0, .int .i64 0, .int .i64 0, .int .i64 0, .int .i64 0], .bool false]) (by simp [results, Tryd.results87, go_sem, r0, r1, r2, r3, r4, r5]) rfl ⟨by rw [HA2.out]; rfl, HV2⟩
  | some x =>
    obtain rfl := hp
    have zw1 := blk_lt B1.out
    go_upto_region 2 with fail
    generalize hW : World.alloc w1 _ = W
    have B2 : Hd (Blk W w.heap.size #[.int .i64 0, .int .i64 0, .int .i64 0, .int .i64 0, .int .i64 0, .int .i64 0] 146) := hid (by rw [← hW]; exact blk_alloc B1.out _)
    have BX : Hd (Blk W w1.heap.size #[.int .i64 x.k, .int .i64 x.a, .int .i64 x.b, .int .i64 x.f, .int .i64 x.u, .int .i64 x.r] 146) := hid (by rw [← hW]; exact blk_new _ _ _)
    have K2 : Hd (Keeps (fun _ => False) w W) := hid (by rw [← hW]; exact K1.out.alloc _)
    clear hW B1 K1
    have x0 : W.cell? ⟨w1.heap.size, 0, none⟩ = some (.int .i64 x.k) := blk_cell BX.out 0
    have x1 : W.cell? ⟨w1.heap.size, 1, none⟩ = some (.int .i64 x.a) := blk_cell BX.out 1
    have x2 : W.cell? ⟨w1.heap.size, 2, none⟩ = some (.int .i64 x.b) := blk_cell BX.out 2
    have x3 : W.cell? ⟨w1.heap.size, 3, none⟩ = some (.int .i64 x.f) := blk_cell BX.out 3
    have x4 : W.cell? ⟨w1.heap.size, 4, none⟩ = some (.int .i64 x.u) := blk_cell BX.out 4
    have x5 : W.cell? ⟨w1.heap.size, 5, none⟩ = some (.int .i64 x.r) := blk_cell BX.out 5
    have o0 : W.cell? ⟨w.heap.size, 0, none⟩ = some (.int .i64 0) := blk_cell B2.out 0
    have f0 : W.frozen? ⟨w.heap.size, 0, none⟩ = false := blk_free B2.out 0
    have o1 : W.cell? ⟨w.heap.size, 1, none⟩ = some (.int .i64 0) := blk_cell B2.out 1
    have f1 : W.frozen? ⟨w.heap.size, 1, none⟩ = false := blk_free B2.out 1
    have o2 : W.cell? ⟨w.heap.size, 2, none⟩ = some (.int .i64 0) := blk_cell B2.out 2
    have f2 : W.frozen? ⟨w.heap.size, 2, none⟩ = false := blk_free B2.out 2
    have o3 : W.cell? ⟨w.heap.size, 3, none⟩ = some (.int .i64 0) := blk_cell B2.out 3
    have f3 : W.frozen? ⟨w.heap.size, 3, none⟩ = false := blk_free B2.out 3
    have o4 : W.cell? ⟨w.heap.size, 4, none⟩ = some (.int .i64 0) := blk_cell B2.out 4
    have f4 : W.frozen? ⟨w.heap.size, 4, none⟩ = false := blk_free B2.out 4
    have o5 : W.cell? ⟨w.heap.size, 5, none⟩ = some (.int .i64 0) := blk_cell B2.out 5
    have f5 : W.frozen? ⟨w.heap.size, 5, none⟩ = false := blk_free B2.out 5
    by_cases ht : x.f ≤ tick
    · have HA2 : Hd (atW ws kind a b tick = some x) := hid (by rw [HA.out]; simp [ht])
      clear HA
      go_wp2
      obtain ⟨HV2, B3⟩ := fin6 K2.out (Nat.le_refl _) B2.out (.int .i64 x.k) (.int .i64 x.a) (.int .i64 x.b) (.int .i64 x.f) (.int .i64 x.u) (.int .i64 x.r)
      have r0 := blk_cell B3 0
      have r1 := blk_cell B3 1
      have r2 := blk_cell B3 2
      have r3 := blk_cell B3 3
      have r4 := blk_cell B3 4
      have r5 := blk_cell B3 5
      refine bodyPost_ret (v := .tuple #[.agg #[.int .i64 x.k, .int .i64 x.a, .int .i64 x.b, .int .i64 x.f, .int .i64 x.u, .int .i64 x.r], .bool true]) (by simp [results, Tryd.results87, go_sem, r0, r1, r2, r3, r4, r5]) rfl ⟨by rw [HA2.out]; rfl, HV2⟩
    · have HA2 : Hd (atW ws kind a b tick = none) := hid (by rw [HA.out]; simp [ht])
      clear HA
      have ht2 : tick < x.f := by omega
      go_wp2
      obtain ⟨HV2, B3⟩ := fin6 K2.out (Nat.le_refl _) B2.out (.int .i64 0) (.int .i64 0) (.int .i64 0) (.int .i64 0) (.int .i64 0) (.int .i64 0)
      have r0 := blk_cell B3 0
      have r1 := blk_cell B3 1
      have r2 := blk_cell B3 2
      have r3 := blk_cell B3 3
      have r4 := blk_cell B3 4
      have r5 := blk_cell B3 5
      refine bodyPost_ret (v := .tuple #[.agg #[.int .i64 0, .int .i64 0, .int .i64 0, .int .i64 0, .int .i64 0, .int .i64 0], .bool false]) (by simp [results, Tryd.results87, go_sem, r0, r1, r2, r3, r4, r5]) rfl ⟨by rw [HA2.out]; rfl, HV2⟩
def winW (ws : List Win) (fr to tick : Int) : Option Win :=
  if min fr to < 0 ∨ 12 ≤ min fr to ∨ fr = to then none else if 12 ≤ max fr to then atW ws 1 (min fr to) (max fr to - 12) tick else atW ws 2 (min fr to) (max fr to) tick
set_option maxRecDepth 100000 in set_option maxHeartbeats 1000000 in
theorem window_any (v : Value) (ws : List Win) (fr to tick : Int) (w : World) (hv : Wins (fun k => k < w.heap.size) w v ws) (h1 : -9223372036854775808 ≤ fr ∧ fr ≤ 9223372036854775807) (h2 : -9223372036854775808 ≤ to ∧ to ≤ 9223372036854775807) :
    Calls Tryd.prog 77 #[v, .int .i64 fr, .int .i64 to, .int .i64 tick] w fun e W' => NextPost (winW ws fr to tick) e ∧ Keeps (fun _ => False) w W' := by
  have HV := hid hv; clear hv
  have KA := hid (keeps_alloc (fun _ => False) w (.cells #[.int .i64 0, .int .i64 0, .int .i64 0, .int .i64 0, .int .i64 0, .int .i64 0] 146))
  have BA : Hd (Blk (w.alloc (.cells #[.int .i64 0, .int .i64 0, .int .i64 0, .int .i64 0, .int .i64 0, .int .i64 0] 146)) w.heap.size #[.int .i64 0, .int .i64 0, .int .i64 0, .int .i64 0, .int .i64 0, .int .i64 0] 146) := hid (blk_new _ _ _)
  obtain ⟨lo, hi, hlo, hhi, hlh⟩ : ∃ lo hi, lo = min fr to ∧ hi = max fr to ∧ (lo < hi ∧ fr ≠ to ∨ lo = hi ∧ fr = to) := ⟨_, _, rfl, rfl, by omega⟩
  obtain ⟨R, hR⟩ : ∃ R, winW ws fr to tick = R := ⟨_, rfl⟩
  rw [hR]
  have HW : Hd (R = if lo < 0 ∨ 12 ≤ lo ∨ fr = to then none else if 12 ≤ hi then atW ws 1 lo (hi - 12) tick else atW ws 2 lo hi tick) := hid (by rw [← hR, hlo, hhi]; rfl)
  clear hR
  by_cases hbad : lo < 0 ∨ 12 ≤ lo ∨ lo = hi
  · have HW2 : Hd (R = none) := hid (by rw [HW.out, if_pos (by omega)])
    clear HW
    rcases Int.lt_trichotomy fr to with ho | ho | ho
    all_goals
      have hlo2 : lo = fr ∨ lo = to := by omega
      rcases (show lo < 0 ∨ (¬ lo < 0 ∧ 12 ≤ lo) ∨ (¬ lo < 0 ∧ ¬ 12 ≤ lo ∧ fr = to) by omega) with hb | ⟨hb, hb2⟩ | ⟨hb, hb2, hb3⟩
      all_goals
        first
        | (exfalso; omega)
        | (go_enter Tryd.func77, Tryd.ntmps77
           go_upto_region 1 with fail
           generalize hW0 : World.alloc w _ = W0 at *
           have o0 : W0.cell? ⟨w.heap.size, 0, none⟩ = some (.int .i64 0) := blk_cell BA.out 0
           have f0 : W0.frozen? ⟨w.heap.size, 0, none⟩ = false := blk_free BA.out 0
           have o1 : W0.cell? ⟨w.heap.size, 1, none⟩ = some (.int .i64 0) := blk_cell BA.out 1
           have f1 : W0.frozen? ⟨w.heap.size, 1, none⟩ = false := blk_free BA.out 1
           have o2 : W0.cell? ⟨w.heap.size, 2, none⟩ = some (.int .i64 0) := blk_cell BA.out 2
           have f2 : W0.frozen? ⟨w.heap.size, 2, none⟩ = false := blk_free BA.out 2
           have o3 : W0.cell? ⟨w.heap.size, 3, none⟩ = some (.int .i64 0) := blk_cell BA.out 3
           have f3 : W0.frozen? ⟨w.heap.size, 3, none⟩ = false := blk_free BA.out 3
           have o4 : W0.cell? ⟨w.heap.size, 4, none⟩ = some (.int .i64 0) := blk_cell BA.out 4
           have f4 : W0.frozen? ⟨w.heap.size, 4, none⟩ = false := blk_free BA.out 4
           have o5 : W0.cell? ⟨w.heap.size, 5, none⟩ = some (.int .i64 0) := blk_cell BA.out 5
           have f5 : W0.frozen? ⟨w.heap.size, 5, none⟩ = false := blk_free BA.out 5
           go_wp2
           obtain ⟨HV2, B3⟩ := fin6 KA.out (Nat.le_refl _) BA.out (.int .i64 0) (.int .i64 0) (.int .i64 0) (.int .i64 0) (.int .i64 0) (.int .i64 0)
           have r0 := blk_cell B3 0
           have r1 := blk_cell B3 1
           have r2 := blk_cell B3 2
           have r3 := blk_cell B3 3
           have r4 := blk_cell B3 4
           have r5 := blk_cell B3 5
           refine bodyPost_ret (v := .tuple #[.agg #[.int .i64 0, .int .i64 0, .int .i64 0, .int .i64 0, .int .i64 0, .int .i64 0], .bool false]) (by simp [results, Tryd.results77, go_sem, r0, r1, r2, r3, r4, r5]) rfl ⟨by rw [HW2.out]; rfl, HV2⟩)
  · have hne : fr ≠ to := by omega
    have HW2 : Hd (R = if 12 ≤ hi then atW ws 1 lo (hi - 12) tick else atW ws 2 lo hi tick) := hid (by rw [HW.out, if_neg (by omega)])
    clear HW
    rcases (show (lo = fr ∧ hi = to ∧ fr < to) ∨ (lo = to ∧ hi = fr ∧ to < fr) by omega) with ⟨e1, e2, ho⟩ | ⟨e1, e2, ho⟩
    all_goals
      subst e1 e2
      clear hlo hhi
      have b1 : ¬ lo < 0 := by omega
      have b2 : ¬ 12 ≤ lo := by omega
      have b3 : lo ≠ hi := by omega
      by_cases h12 : 12 ≤ hi
      · have HW3 : Hd (R = atW ws 1 lo (hi - 12) tick) := hid (by rw [HW2.out, if_pos h12])
        clear HW2
        go_enter Tryd.func77, Tryd.ntmps77
        go_upto_region 1 with fail
        go_wp2_with fail
        refine (At_any v ws 1 lo (hi - 12) tick _ ((HV.out.keep KA.out (fun _ _ _ h => h)).mono (fun b h _ => h))).mono ?_
        rw [← HW3.out]
        rintro e w1 ⟨hp, hk⟩
        have B1 : Hd (Blk w1 w.heap.size #[.int .i64 0, .int .i64 0, .int .i64 0, .int .i64 0, .int .i64 0, .int .i64 0] 146) := hid (blk_keep BA.out hk (fun h => h))
        have K1 := hid (KA.out.trans hk)
        clear hk KA BA HW3
        have o0 : w1.cell? ⟨w.heap.size, 0, none⟩ = some (.int .i64 0) := blk_cell B1.out 0
        have f0 : w1.frozen? ⟨w.heap.size, 0, none⟩ = false := blk_free B1.out 0
        have o1 : w1.cell? ⟨w.heap.size, 1, none⟩ = some (.int .i64 0) := blk_cell B1.out 1
        have f1 : w1.frozen? ⟨w.heap.size, 1, none⟩ = false := blk_free B1.out 1
        have o2 : w1.cell? ⟨w.heap.size, 2, none⟩ = some (.int .i64 0) := blk_cell B1.out 2
        have f2 : w1.frozen? ⟨w.heap.size, 2, none⟩ = false := blk_free B1.out 2
        have o3 : w1.cell? ⟨w.heap.size, 3, none⟩ = some (.int .i64 0) := blk_cell B1.out 3
        have f3 : w1.frozen? ⟨w.heap.size, 3, none⟩ = false := blk_free B1.out 3
        have o4 : w1.cell? ⟨w.heap.size, 4, none⟩ = some (.int .i64 0) := blk_cell B1.out 4
        have f4 : w1.frozen? ⟨w.heap.size, 4, none⟩ = false := blk_free B1.out 4
        have o5 : w1.cell? ⟨w.heap.size, 5, none⟩ = some (.int .i64 0) := blk_cell B1.out 5
        have f5 : w1.frozen? ⟨w.heap.size, 5, none⟩ = false := blk_free B1.out 5
        cases R with
        | none =>
          obtain rfl := hp
          go_wp2
          obtain ⟨HV2, B3⟩ := fin6 K1.out (Nat.le_refl _) B1.out (.int .i64 0) (.int .i64 0) (.int .i64 0) (.int .i64 0) (.int .i64 0) (.int .i64 0)
          have r0 := blk_cell B3 0
          have r1 := blk_cell B3 1
          have r2 := blk_cell B3 2
          have r3 := blk_cell B3 3
          have r4 := blk_cell B3 4
          have r5 := blk_cell B3 5
          refine bodyPost_ret (v := .tuple #[.agg #[.int .i64 0, .int .i64 0, .int .i64 0, .int .i64 0, .int .i64 0, .int .i64 0], .bool false]) (by simp [results, Tryd.results77, go_sem, r0, r1, r2, r3, r4, r5]) rfl ⟨rfl, HV2⟩
        | some x =>
          obtain rfl := hp
          go_wp2
          obtain ⟨HV2, B3⟩ := fin6 K1.out (Nat.le_refl _) B1.out (.int .i64 x.k) (.int .i64 x.a) (.int .i64 x.b) (.int .i64 x.f) (.int .i64 x.u) (.int .i64 x.r)
          have r0 := blk_cell B3 0
          have r1 := blk_cell B3 1
          have r2 := blk_cell B3 2
          have r3 := blk_cell B3 3
          have r4 := blk_cell B3 4
          have r5 := blk_cell B3 5
          refine bodyPost_ret (v := .tuple #[.agg #[.int .i64 x.k, .int .i64 x.a, .int .i64 x.b, .int .i64 x.f, .int .i64 x.u, .int .i64 x.r], .bool true]) (by simp [results, Tryd.results77, go_sem, r0, r1, r2, r3, r4, r5]) rfl ⟨rfl, HV2⟩
      · have HW3 : Hd (R = atW ws 2 lo (hi) tick) := hid (by rw [HW2.out, if_neg h12])
        clear HW2
        go_enter Tryd.func77, Tryd.ntmps77
        go_upto_region 1 with fail
        go_wp2_with fail
        refine (At_any v ws 2 lo (hi) tick _ ((HV.out.keep KA.out (fun _ _ _ h => h)).mono (fun b h _ => h))).mono ?_
        rw [← HW3.out]
        rintro e w1 ⟨hp, hk⟩
        have B1 : Hd (Blk w1 w.heap.size #[.int .i64 0, .int .i64 0, .int .i64 0, .int .i64 0, .int .i64 0, .int .i64 0] 146) := hid (blk_keep BA.out hk (fun h => h))
        have K1 := hid (KA.out.trans hk)
        clear hk KA BA HW3
        have o0 : w1.cell? ⟨w.heap.size, 0, none⟩ = some (.int .i64 0) := blk_cell B1.out 0
        have f0 : w1.frozen? ⟨w.heap.size, 0, none⟩ = false := blk_free B1.out 0
        have o1 : w1.cell? ⟨w.heap.size, 1, none⟩ = some (.int .i64 0) := blk_cell B1.out 1
        have f1 : w1.frozen? ⟨w.heap.size, 1, none⟩ = false := blk_free B1.out 1
        have o2 : w1.cell? ⟨w.heap.size, 2, none⟩ = some (.int .i64 0) := blk_cell B1.out 2
        have f2 : w1.frozen? ⟨w.heap.size, 2, none⟩ = false := blk_free B1.out 2
        have o3 : w1.cell? ⟨w.heap.size, 3, none⟩ = some (.int .i64 0) := blk_cell B1.out 3
        have f3 : w1.frozen? ⟨w.heap.size, 3, none⟩ = false := blk_free B1.out 3
        have o4 : w1.cell? ⟨w.heap.size, 4, none⟩ = some (.int .i64 0) := blk_cell B1.out 4
        have f4 : w1.frozen? ⟨w.heap.size, 4, none⟩ = false := blk_free B1.out 4
        have o5 : w1.cell? ⟨w.heap.size, 5, none⟩ = some (.int .i64 0) := blk_cell B1.out 5
        have f5 : w1.frozen? ⟨w.heap.size, 5, none⟩ = false := blk_free B1.out 5
        cases R with
        | none =>
          obtain rfl := hp
          go_wp2
          obtain ⟨HV2, B3⟩ := fin6 K1.out (Nat.le_refl _) B1.out (.int .i64 0) (.int .i64 0) (.int .i64 0) (.int .i64 0) (.int .i64 0) (.int .i64 0)
          have r0 := blk_cell B3 0
          have r1 := blk_cell B3 1
          have r2 := blk_cell B3 2
          have r3 := blk_cell B3 3
          have r4 := blk_cell B3 4
          have r5 := blk_cell B3 5
          refine bodyPost_ret (v := .tuple #[.agg #[.int .i64 0, .int .i64 0, .int .i64 0, .int .i64 0, .int .i64 0, .int .i64 0], .bool false]) (by simp [results, Tryd.results77, go_sem, r0, r1, r2, r3, r4, r5]) rfl ⟨rfl, HV2⟩
        | some x =>
          obtain rfl := hp
          go_wp2
          obtain ⟨HV2, B3⟩ := fin6 K1.out (Nat.le_refl _) B1.out (.int .i64 x.k) (.int .i64 x.a) (.int .i64 x.b) (.int .i64 x.f) (.int .i64 x.u) (.int .i64 x.r)
          have r0 := blk_cell B3 0
          have r1 := blk_cell B3 1
          have r2 := blk_cell B3 2
          have r3 := blk_cell B3 3
          have r4 := blk_cell B3 4
          have r5 := blk_cell B3 5
          refine bodyPost_ret (v := .tuple #[.agg #[.int .i64 x.k, .int .i64 x.a, .int .i64 x.b, .int .i64 x.f, .int .i64 x.u, .int .i64 x.r], .bool true]) (by simp [results, Tryd.results77, go_sem, r0, r1, r2, r3, r4, r5]) rfl ⟨rfl, HV2⟩
end Go.Proofs.YtgfekgceeigdiaaDoor.Li
namespace Go.Proofs.YtgfekgceeigdiaaDoor.Li
open Go.RowKit
attribute [local go_sem ↓] Go.wp_at_zero Go.wp_at_succ
theorem infoU8 : (Tryd.prog.info? 5).map (fun i => (i.zero, i.size, i.bytes)) = some (some (.int .u8 0), 1, 1) := by kernel_rfl
theorem infoFl : (Tryd.prog.info? 106).map (fun i => (i.size, i.bytes)) = some (5, 56) := by kernel_rfl
theorem infoFlz : ((Tryd.prog.info? 106).bind (·.zero)).map (fun z => z.cells) = some #[.int .i64 0, .int .i64 0, .int .i64 0, .int .i64 0, .slice none 0 0] := by kernel_rfl
theorem fl_parts : ∃ i z, Tryd.prog.info? 106 = some i ∧ i.zero = some z ∧ i.size = 5 ∧ i.bytes = 56 ∧ z.cells.size = 5 := by
  obtain ⟨i, hi, h1⟩ := Option.map_eq_some_iff.1 infoFl
  have h2 := infoFlz
  rw [hi] at h2
  obtain ⟨z, hz, h3⟩ := Option.map_eq_some_iff.1 h2
  simp only [Prod.mk.injEq] at h1
  exact ⟨i, z, hi, hz, h1.1, h1.2, by rw [h3]; rfl⟩
def NewRet (w : World) (e : TypeId) (xs : List Value) (r : Ending) (w' : World) : Prop := ∃ a n c, r = .returned (.slice a n c) ∧ n = xs.length ∧ Own (fun k => w.heap.size ≤ k) w' e 1 (.slice a n c) n xs ∧ Keeps (fun _ => False) w w'
theorem own_sl {w : World} {a : Option Addr} {n c : Nat} {S : Nat → Prop} {xs : List Nat} (h : Own S w 5 1 (.slice a n c) n (u8s xs)) (hn : n = (u8s xs).length) : Sl S w (.slice a n c) (u8s xs) := row_sl h.row hn.symm
theorem own_none {S : Nat → Prop} {w : World} {e : TypeId} {size : Nat} {v : Value} {n : Nat} {xs : List Value} (h : Own S w e size v n xs) : Own (fun b => v.ownBlock = some b) w e size v n xs := ⟨h.1, fun _ hk => hk⟩
set_option maxRecDepth 100000 in
set_option maxHeartbeats 400000 in
theorem CloneB_any (K : Nat → Prop) (v : Value) (b : List Nat) (w : World) (hv : Sl K w v (u8s b)) (hm : b.length ≤ 140737488351232) :
    Calls Tryd.prog 11 #[v] w fun e w' => NewRet w 5 (u8s b) e w' := by
  obtain ⟨i0, hi, hz0, hz1, hz2⟩ := info_parts infoU8
  have hv0 := hid hv
  have HM := hid hm; clear hm
  rcases hv.bcases with ⟨rfl, rfl⟩ | ⟨bb, cap, rfl⟩
  · clear hv hv0
    have hq : ∀ (w : World) (a : Option Addr) (n c n' c' : Nat), (binOp .eql 22 (.slice a n c) (.slice none n' c')).run Tryd.prog w = .ok (.bool a.isNone) w := fun w a n c n' c' => Lib.run_eql_slice_nil w _ _ a n c n' c' Tryd.underlying22
    go_enter Tryd.func11, Tryd.ntmps11
    go_wp2
    go_ret
    exact ⟨none, 0, 0, rfl, rfl, Own.nil _ _ _ _, Keeps.refl _ _⟩
  · clear hv
    have hq : ∀ (w : World) (a : Option Addr) (n c n' c' : Nat), (binOp .eql 22 (.slice a n c) (.slice none n' c')).run Tryd.prog w = .ok (.bool a.isNone) w := fun w a n c n' c' => Lib.run_eql_slice_nil w _ _ a n c n' c' Tryd.underlying22
    have HS : Hd (Sl K (w.alloc (.cells #[] 5)) (.slice (some bb) b.length cap) (u8s b)) := hid (hv0.out.keep (keeps_alloc (fun _ => False) w (.cells #[] 5)) (fun _ _ _ h => h))
    generalize hbl : b.length = n at *
    have HBL := hid hbl; clear hbl
    have HO : Hd (Own (fun k => w.heap.size ≤ k) (w.alloc (.cells #[] 5)) 5 1 (.slice (some ⟨w.heap.size, 0, none⟩) 0 0) 0 []) :=
      hid ⟨World.ownsRow_lit w #[] 0 (Nat.zero_le _) (Nat.zero_le _) rfl, fun k hk => by injection hk with hk; simp at hk; omega⟩
    go_enter Tryd.func11, Tryd.ntmps11
    go_wp2_with (at_builtin; refine wpList_append_row rfl _ _ 22 rfl 5 i0 (.int .u8 0) 1 1 Tryd.underlying22 hi hz0 hz1 hz2 rfl (by decide) _ K _ _ _ _ rfl HO.out n _ rfl (sl_row HS.out (by simp [HBL.out])) (u8s_one _) ?h1 ?h2 ?_)
    case h1 => have := HM.out; simp [maxLen]; omega
    case h2 => have := HM.out; omega
    intro a1 cap1 w2 hown' hgrow; try intro _
    try simp only [Nat.zero_add, List.nil_append] at hown'
    have H1 := hid hown'; have H2 := hid hgrow; clear hown' hgrow
    go_wp2
    go_ret
    refine ⟨a1, n, cap1, by simp, by simp [HBL.out], ?_, ?_⟩
    · have h1 := H1.out.mono (K' := fun k => w.heap.size ≤ k) (fun b hb hh => by
        rcases hh with hh | hh
        · exact hh
        · omega)
      simpa [HBL.out] using h1
    · exact ((keeps_alloc _ w _).trans' H2.out (fun i hi hs => by omega))
/-- a flight: its tick, its number, from, to, its bytes -/
structure Flt where
  t : Int
  n : Int
  f : Int
  g : Int
  d : List Nat
def FlCells (K : Nat → Prop) (w : World) (c : Nat → Value) (x : Flt) : Prop :=
  c 0 = .int .i64 x.t ∧ c 1 = .int .i64 x.n ∧ c 2 = .int .i64 x.f ∧ c 3 = .int .i64 x.g ∧ Sl K w (c 4) (u8s x.d)
def Fls (K : Nat → Prop) (w : World) (v : Value) (l : List Flt) : Prop :=
  ∃ xs, Row K w 5 v l.length xs ∧ ∀ i x, l[i]? = some x → FlCells K w (fun j => xs.getD (i * 5 + j) undef) x
theorem FlCells.keep {K S : Nat → Prop} {w w' : World} {c : Nat → Value} {x : Flt} (h : FlCells K w c x) (hk : Keeps S w w') (hd : ∀ b, b < w.heap.size → K b → ¬ S b) : FlCells K w' c x := ⟨h.1, h.2.1, h.2.2.1, h.2.2.2.1, h.2.2.2.2.keep hk hd⟩
theorem FlCells.mono {K K' : Nat → Prop} {w : World} {c : Nat → Value} {x : Flt} (h : FlCells K w c x) (hd : ∀ b, b < w.heap.size → K b → K' b) : FlCells K' w c x := ⟨h.1, h.2.1, h.2.2.1, h.2.2.2.1, h.2.2.2.2.mono hd⟩
theorem Fls.keep {K S : Nat → Prop} {w w' : World} {v : Value} {l : List Flt} (h : Fls K w v l) (hk : Keeps S w w') (hd : ∀ b, b < w.heap.size → K b → ¬ S b) : Fls K w' v l := by
  obtain ⟨xs, h1, h2⟩ := h
  exact ⟨xs, h1.keep hk hd, fun i x hi => (h2 i x hi).keep hk hd⟩
theorem Fls.mono {K K' : Nat → Prop} {w : World} {v : Value} {l : List Flt} (h : Fls K w v l) (hd : ∀ b, b < w.heap.size → K b → K' b) : Fls K' w v l := by
  obtain ⟨xs, h1, h2⟩ := h
  exact ⟨xs, h1.mono hd, fun i x hi => (h2 i x hi).mono hd⟩
/-- flights in a row of the call's own, with bytes of its own -/
def FlO (B : Nat) (w : World) (v : Value) (l : List Flt) : Prop :=
  ∃ xs, Own (fun b => v.ownBlock = some b) w 106 5 v l.length xs ∧ (∀ b, v.ownBlock = some b → B ≤ b) ∧ ∀ i x, l[i]? = some x → FlCells (fun b => B ≤ b ∧ v.ownBlock ≠ some b) w (fun j => xs.getD (i * 5 + j) undef) x
theorem FlO.fls {B : Nat} {w : World} {v : Value} {l : List Flt} (h : FlO B w v l) : Fls (fun b => B ≤ b) w v l := by
  obtain ⟨xs, h1, h2, h3⟩ := h
  exact ⟨xs, h1.row.mono (fun b _ hb => h2 b hb), fun i x hi => (h3 i x hi).mono (fun b _ hb => hb.1)⟩
theorem FlO.keep {B : Nat} {S : Nat → Prop} {w w' : World} {v : Value} {l : List Flt} (h : FlO B w v l) (hk : Keeps S w w') (hd : ∀ b, b < w.heap.size → B ≤ b → ¬ S b) : FlO B w' v l := by
  obtain ⟨xs, h1, h2, h3⟩ := h
  exact ⟨xs, h1.keep hk (fun b hb hh => hd b hb (h2 b hh)), h2, fun i x hi => (h3 i x hi).keep hk (fun b hb hh => hd b hb hh.1)⟩
theorem fl_one {K : Nat → Prop} {w : World} {xs : List Value} {l : List Flt} (hl : xs.length = l.length * 5) (h : ∀ i x, l[i]? = some x → FlCells K w (fun j => xs.getD (i * 5 + j) undef) x) : ∀ u ∈ xs, u.oneCell' = true := by
  intro u hu
  obtain ⟨p, hp, rfl⟩ := List.getElem_of_mem hu
  have hi : p / 5 < l.length := by omega
  have key : ∀ j, p % 5 = j → xs[p] = xs.getD (p / 5 * 5 + j) undef := fun j hj => by
    have : p / 5 * 5 + j = p := by omega
    rw [this, List.getD, List.getElem?_eq_getElem hp]; rfl
  obtain ⟨c0, c1, c2, c3, c4⟩ := h _ _ (List.getElem?_eq_getElem hi)
  rcases (show p % 5 = 0 ∨ p % 5 = 1 ∨ p % 5 = 2 ∨ p % 5 = 3 ∨ p % 5 = 4 by omega) with hj | hj | hj | hj | hj
  · rw [key 0 hj]; exact (congrArg Value.oneCell' c0).trans rfl
  · rw [key 1 hj]; exact (congrArg Value.oneCell' c1).trans rfl
  · rw [key 2 hj]; exact (congrArg Value.oneCell' c2).trans rfl
  · rw [key 3 hj]; exact (congrArg Value.oneCell' c3).trans rfl
  · rw [key 4 hj]
    obtain ⟨a, cap, e, _⟩ := c4.bytes
    exact (congrArg Value.oneCell' e).trans rfl
def CloneFPost (w : World) (xs : List Value) (n : Nat) (r : Ending) (w' : World) : Prop := ∃ a c, r = .returned (.slice a n c) ∧ Own (fun k => w.heap.size ≤ k) w' 106 5 (.slice a n c) n xs ∧ Keeps (fun _ => False) w w'
set_option maxRecDepth 100000 in set_option maxHeartbeats 1000000 in
theorem CloneF_any (K : Nat → Prop) (v : Value) (l : List Flt) (xs : List Value) (w : World) (hv : Row K w 5 v l.length xs) (hone : ∀ u ∈ xs, u.oneCell' = true) (hm : l.length ≤ 1000000000) :
    Calls Tryd.prog 69 #[v] w fun e w' => CloneFPost w xs l.length e w' := by
  obtain ⟨i0, z, hi, hz0, hz1, hz2, hz3⟩ := fl_parts
  have hv0 := hid hv
  have HONE := hid hone; clear hone
  have hq : ∀ (w : World) (a : Option Addr) (n c n' c' : Nat), (binOp .eql 46 (.slice a n c) (.slice none n' c')).run Tryd.prog w = .ok (.bool a.isNone) w := fun w a n c n' c' => Lib.run_eql_slice_nil w _ _ a n c n' c' Tryd.underlying46
  generalize hbl : l.length = n at *
  rcases hv with ⟨hl, ⟨rfl, rfl⟩ | ⟨bb, cap, rfl, _, _, _⟩⟩
  · obtain rfl := List.eq_nil_of_length_eq_zero (by omega : xs.length = 0)
    clear hv0
    go_enter Tryd.func69, Tryd.ntmps69
    go_wp2
    go_ret
    exact ⟨none, 0, rfl, Own.nil _ _ _ _, Keeps.refl _ _⟩
  · have HS : Hd (Row K (w.alloc (.cells #[] 106)) 5 (.slice (some bb) n cap) n xs) := hid (hv0.out.keep (keeps_alloc (fun _ => False) w (.cells #[] 106)) (fun _ _ _ h => h))
    have HO : Hd (Own (fun k => w.heap.size ≤ k) (w.alloc (.cells #[] 106)) 106 5 (.slice (some ⟨w.heap.size, 0, none⟩) 0 0) 0 []) :=
      hid ⟨World.ownsRow_lit w #[] 0 (Nat.zero_le _) (Nat.zero_le _) rfl, fun k hk => by injection hk with hk; simp at hk; omega⟩
    go_enter Tryd.func69, Tryd.ntmps69
    go_wp2_with (at_builtin; refine wpList_append_row rfl _ _ 46 rfl 106 i0 z 5 56 Tryd.underlying46 hi hz0 hz1 hz2 hz3 (by decide) _ K _ _ _ _ rfl HO.out n _ rfl HS.out HONE.out ?h1 ?h2 ?_)
    case h1 => simp [maxLen]; omega
    case h2 => omega
    intro a1 cap1 w2 hown' hgrow; try intro _
    try simp only [Nat.zero_add, List.nil_append] at hown'
    have H1 := hid hown'; have H2 := hid hgrow; clear hown' hgrow
    go_wp2
    go_ret
    refine ⟨a1, cap1, by simp, ?_, ?_⟩
    · have h1 := H1.out.mono (K' := fun k => w.heap.size ≤ k) (fun b hb hh => by
        rcases hh with hh | hh
        · exact hh
        · omega)
      simpa using h1
    · exact ((keeps_alloc _ w _).trans' H2.out (fun i hi hs => by omega))
end Go.Proofs.YtgfekgceeigdiaaDoor.Li
namespace Go.Proofs.YtgfekgceeigdiaaDoor.Li
open Go.RowKit
attribute [local go_sem ↓] Go.wp_at_zero Go.wp_at_succ
theorem row_none {K : Nat → Prop} {w : World} {size n c : Nat} {a : Option Addr} {xs : List Value} (h : Row K w size (.slice a n c) n xs) (hn : 0 < n) : ∃ x, a = some x := by
  obtain ⟨_, ⟨h1, h2⟩ | ⟨x, cap, h1, _⟩⟩ := h
  · omega
  · injection h1 with h1; exact ⟨x, h1⟩
/-- the value of one cell turned -/
theorem set_getD {xs : List Value} {p q : Nat} {u : Value} (hq : q < xs.length) : (xs.set p u).getD q undef = if p = q then u else xs.getD q undef := by
  rw [List.getD, List.getElem?_set]
  by_cases h : p = q
  · subst h; simp [hq]
  · simp [h]
def OwnPost (w : World) (l : List Flt) (r : Ending) (w' : World) : Prop := ∃ a c, r = .returned (.slice a l.length c) ∧ FlO w.heap.size w' (.slice a l.length c) l ∧ Keeps (fun _ => False) w w'
set_option maxRecDepth 100000 in set_option maxHeartbeats 1000000 in
theorem own_any (v : Value) (l : List Flt) (w : World) (hv : Fls (fun b => b < w.heap.size) w v l) (hm : l.length ≤ 1000000) (hd : ∀ x ∈ l, x.d.length ≤ 140737488351232) :
    Calls Tryd.prog 45 #[v] w fun e w' => OwnPost w l e w' := by
  obtain ⟨xs, hrow, hcells⟩ := hv
  have HROW := hid hrow; have HCE := hid hcells; have HDD := hid hd
  have HONE := hid (fl_one (by have := hrow.1; omega) hcells)
  clear hrow hcells hd
  generalize hll : l.length = m at *
  have HLL := hid hll
  go_enter Tryd.func45, Tryd.ntmps45
  go_wp2_with fail
  refine (CloneF_any _ v l xs _ (by rw [HLL.out]; exact HROW.out) HONE.out (by rw [HLL.out]; omega)).mono ?_
  rw [HLL.out]
  rintro e w1 ⟨a1, c1, rfl, ho, hk⟩
  have HOB : Hd (∀ b, (Value.slice a1 m c1).ownBlock = some b → w.heap.size ≤ b) := hid ho.2
  have HO1 := hid (own_none ho)
  have K1 := hid hk
  have HIC1 : Hd (∀ i x, l[i]? = some x → FlCells (fun b => (Value.slice a1 m c1).ownBlock ≠ some b ∧ (i < 0 → w.heap.size ≤ b)) w1 (fun j => xs.getD (i * 5 + j) undef) x) := hid (fun i x hi => ((HCE.out i x hi).keep hk (fun _ _ _ h => h)).mono (fun b _ h => ⟨fun hb => by have := HOB.out b hb; omega, fun h0 => by omega⟩))
  clear ho hk HROW HCE HONE hll
  go_wp2_with fail
  go_loopw [9] (fun i wr => ∃ (k : Nat) (xs : List Value), i = .int .i64 k ∧ k ≤ m ∧ Hd (Own (fun b => (Value.slice a1 m c1).ownBlock = some b) wr 106 5 (.slice a1 m c1) m xs) ∧
    Hd (∀ i x, l[i]? = some x → FlCells (fun b => (Value.slice a1 m c1).ownBlock ≠ some b ∧ (i < k → w.heap.size ≤ b)) wr (fun j => xs.getD (i * 5 + j) undef) x) ∧ Hd (Keeps (fun _ => False) w wr)) (fun i _ => m - (intOf i).toNat)
  case atStart => exact ⟨0, xs, rfl, by omega, HO1, HIC1, K1⟩
  case round =>
    clear HO1 HIC1 K1
    obtain ⟨k, xs, rfl, hk, HO, HIC, K0⟩ := hrel
    by_cases hkm : k < m
    · obtain ⟨x, hxk⟩ : ∃ x, l[k]? = some x := ⟨l[k]'(by rw [HLL.out]; exact hkm), List.getElem?_eq_getElem _⟩
      have hxm : x ∈ l := List.mem_of_getElem? hxk
      obtain ⟨x0, hx0⟩ := row_none HO.out.row (by omega)
      subst hx0
      obtain ⟨g, hg⟩ : ∃ g, x0 = ⟨g, 0, none⟩ := by
        rcases HO.out.1.2 with ⟨h, _⟩ | ⟨g, cap, cur, h, _⟩
        · injection h with h; cases h
        · injection h with h; injection h with h; exact ⟨g, h⟩
      subst hg
      have hgw : w.heap.size ≤ g := HOB.out g rfl
      have hglt : g < wr.heap.size := (HO.out.1.lt g rfl).2
      have hxl : xs.length = m * 5 := HO.out.1.1
      obtain ⟨c0, c1', c2, c3, c4⟩ := HIC.out k x hxk
      obtain ⟨ab, cb, e4, _⟩ := c4.bytes
      have key : ∀ j, j < 5 → wr.cell? ⟨g, k * 5 + j, none⟩ = some (xs.getD (k * 5 + j) undef) := fun j hj => by
        rw [HO.out.1.cellAt (k * 5 + j) (by omega), List.getD, List.getElem?_eq_getElem (by omega)]; rfl
      have f0 : wr.cell? ⟨g, k * 5, none⟩ = some (.int .i64 x.t) := (key 0 (by omega)).trans (congrArg some c0)
      have f1 : wr.cell? ⟨g, k * 5 + 1, none⟩ = some (.int .i64 x.n) := (key 1 (by omega)).trans (congrArg some c1')
      have f2 : wr.cell? ⟨g, k * 5 + 2, none⟩ = some (.int .i64 x.f) := (key 2 (by omega)).trans (congrArg some c2)
      have f3 : wr.cell? ⟨g, k * 5 + 3, none⟩ = some (.int .i64 x.g) := (key 3 (by omega)).trans (congrArg some c3)
      have f4 : wr.cell? ⟨g, k * 5 + 4, none⟩ = some (.slice ab x.d.length cb) := (key 4 (by omega)).trans (congrArg some e4)
      have SD : Hd (Sl (fun b => (Value.slice (some ⟨g, 0, none⟩) m c1).ownBlock ≠ some b) wr (.slice ab x.d.length cb) (u8s x.d)) := hid (by
        have h2 : xs.getD (k * 5 + 4) undef = .slice ab x.d.length cb := e4
        have := c4; simp only [h2] at this
        exact this.mono (fun _ _ h => h.1))
      have HDK : Hd (x.d.length ≤ 140737488351232) := hid (HDD.out _ hxm)
      have k1 : (k : Int) < m := by omega
      have k2 : (0 : Int) ≤ k := by omega
      clear key c0 c1' c2 c3 c4 e4
      have HXK := hid hxk
      clear hxk hxm
      go_upto_region 5 with fail
      generalize hW : World.alloc wr _ = W1
      have BT : Hd (Blk W1 wr.heap.size #[.int .i64 x.t, .int .i64 x.n, .int .i64 x.f, .int .i64 x.g, .slice ab x.d.length cb] 106) := hid (by rw [← hW]; exact blk_new _ _ _)
      have kW : Keeps (fun _ => False) wr W1 := by rw [← hW]; exact keeps_alloc _ _ _
      have KW := hid kW
      clear hW f0 f1 f2 f3 f4
      have t4 : W1.cell? ⟨wr.heap.size, 4, none⟩ = some (.slice ab x.d.length cb) := blk_cell BT.out 4
      go_wp2_with fail
      refine (CloneB_any _ _ x.d _ (SD.out.keep KW.out (fun _ _ _ h => h)) HDK.out).mono ?_
      rintro e w2 ⟨a2, n2, c2, rfl, hn2, ho2, hk2⟩
      have S2 := hid (own_sl ho2 hn2)
      have HN2 : Hd (n2 = x.d.length) := hid (by rw [hn2, u8s_length])
      have KR : Hd (Keeps (fun _ => False) wr w2) := hid (KW.out.trans hk2)
      have zr := KW.out.size
      clear hn2 ho2 hk2 kW t4
      have HO2 := hid (HO.out.keep KR.out (fun _ _ _ h => h))
      have g4 : w2.frozen? ⟨g, k * 5 + 4, none⟩ = false := HO2.out.1.frozenAt _
      have h4 : w2.cell? ⟨g, k * 5 + 4, none⟩ = some (xs.getD (k * 5 + 4) undef) := by
        rw [HO2.out.1.cellAt (k * 5 + 4) (by omega), List.getD, List.getElem?_eq_getElem (by omega)]; rfl
      have HST := hid (HO2.out.1.stored (k * 5 + 4) (.slice a2 n2 c2))
      go_wp2
      go_roundw
      case rel =>
        have kst : Keeps (fun b => b = g) w2 (w2.setCell ⟨g, k * 5 + 4, none⟩ (.slice a2 n2 c2)) := keeps_set _ _ _ _ rfl
        refine ⟨k + 1, xs.set (k * 5 + 4) (.slice a2 n2 c2), by go_num, by omega, hid ⟨HST.out.1, fun _ h => h⟩, hid (fun i y hi => ?_), hid ((K0.out.trans KR.out).setCell (.inr hgw) _)⟩
        have hil : i < m := by
          have := (List.getElem?_eq_some_iff.1 hi).1; rw [HLL.out] at this; exact this
        have gne : ∀ b, (Value.slice (some ⟨g, 0, none⟩) m c1).ownBlock ≠ some b → b ≠ g := fun b h e => h (by subst e; rfl)
        by_cases hik : i = k
        · subst hik
          obtain rfl : x = y := Option.some.inj (HXK.out.symm.trans hi)
          obtain ⟨d0, d1, d2, d3, d4⟩ := HIC.out i x hi
          have sg : ∀ j, j < 4 → (xs.set (i * 5 + 4) (.slice a2 n2 c2)).getD (i * 5 + j) undef = xs.getD (i * 5 + j) undef := fun j hj => by rw [set_getD (by omega), if_neg (by omega)]
          refine ⟨(sg 0 (by omega)).trans d0, (sg 1 (by omega)).trans d1, (sg 2 (by omega)).trans d2, (sg 3 (by omega)).trans d3, ?_⟩
          · show Sl _ _ ((xs.set (i * 5 + 4) (.slice a2 n2 c2)).getD (i * 5 + 4) undef) _
            rw [set_getD (by omega), if_pos rfl]
            exact (S2.out.mono (K' := fun b => W1.heap.size ≤ b) (fun b _ h => h)).keep kst (fun b _ h1 h2 => by omega) |>.mono (fun b _ h => ⟨fun hb => by injection hb with hb; simp at hb; omega, fun _ => by omega⟩)
        · have hd1 := (((HIC.out i y hi).keep KR.out (fun _ _ _ h => h)).keep kst (fun b _ h1 h2 => gne b h1.1 h2)).mono (K' := fun b => (Value.slice (some ⟨g, 0, none⟩) m c1).ownBlock ≠ some b ∧ (i < k + 1 → w.heap.size ≤ b)) (fun b _ h => ⟨h.1, fun hlt => h.2 (by omega)⟩)
          obtain ⟨d0, d1, d2, d3, d4⟩ := hd1
          have sg : ∀ j, j < 5 → (xs.set (k * 5 + 4) (.slice a2 n2 c2)).getD (i * 5 + j) undef = xs.getD (i * 5 + j) undef := fun j hj => by rw [set_getD (by omega), if_neg (by omega)]
          refine ⟨(sg 0 (by omega)).trans d0, (sg 1 (by omega)).trans d1, (sg 2 (by omega)).trans d2, (sg 3 (by omega)).trans d3, ?_⟩
          simp only [sg 4 (by omega)]; exact d4
      case measure => simp [intOf]; omega
    · have hkn : k = m := by omega
      subst hkn
      have HR : Hd (OwnPost w l (.returned (.slice a1 k c1)) wr) := hid ⟨a1, c1, by rw [HLL.out], ⟨xs, by rw [HLL.out]; exact HO.out, by rw [HLL.out]; exact HOB.out, fun i x hi => by
        have hil : i < k := by
          have := (List.getElem?_eq_some_iff.1 hi).1; rw [HLL.out] at this; exact this
        rw [HLL.out]
        exact (HIC.out i x hi).mono (fun b _ h => ⟨h.2 hil, h.1⟩)⟩, K0.out⟩
      go_wp2
      go_ret
      exact HR.out
end Go.Proofs.YtgfekgceeigdiaaDoor.Li
