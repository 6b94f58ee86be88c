/- orbit.Next, orbit.At. -/
import Derived.Test.YtjapmpolagblaaaLinkA
namespace Go.Proofs.Ytjapmpolagblaaa
open Go.RowKit Go.Shelf
attribute [local go_sem] Oper.semAt_some
def Win.nil : Win := ⟨0, 0, 0, 0, 0, 0⟩
def winA (x : Win) : Value := .agg #[.int .i64 x.k, .int .i64 x.a, .int .i64 x.b, .int .i64 x.f, .int .i64 x.u, .int .i64 x.r]
def nextW (ws : List Win) (kind a b tick : Int) : Option Win := (ws.filter (fun x => x.key kind a b)).find? (fun x => decide (tick < x.u))
def NextPost : Option Win → Ending → Prop
  | some x, e => e = .returned (.tuple #[.agg #[.int .i64 x.k, .int .i64 x.a, .int .i64 x.b, .int .i64 x.f, .int .i64 x.u, .int .i64 x.r], .bool true])
  | none, e => e = .returned (.tuple #[.agg #[.int .i64 0, .int .i64 0, .int .i64 0, .int .i64 0, .int .i64 0, .int .i64 0], .bool false])
theorem blk_own {β : Type} (B : Nat) (t : TypeId) (f : β → Array Value) : Go.Own (fun s W => Blk W B (f s) t) := fun s X Y row hs hg hrow => by
  refine (hg.block B (blk_lt hs) (fun e' => ?_)).trans hs
  obtain ⟨o, ho, hc⟩ := hrow B e'.symm
  rw [show X.heap[B]? = _ from hs] at ho; cases ho; cases hc
set_option maxRecDepth 100000 in set_option maxHeartbeats 1000000 in
theorem Next_in (F : Fence) (n : Nat) (hf : F.fn 40) (hf1 : F.fn 41) (hf2 : F.fn 42) (hro : F.round = none) (hn : 3 ≤ n) (v : Value) (ws : List Win) (kind a b tick : Int) (w : World) (hv : Wins (fun k => k < w.heap.size) w v ws) :
    CallsIn F n Try.prog 40 #[v, .int .i64 kind, .int .i64 a, .int .i64 b, .int .i64 tick] w fun e W' => NextPost (nextW ws kind a b tick) e ∧ Below w.heap.size w W' := by
  have h1 : 1 ≤ n := by omega
  have hv0 := hv
  obtain ⟨sa, cap, rfl, hcap, hcm, hel⟩ := hv
  unfold maxLen at hcm
  have HEL := hid hel; clear hel
  have HV := hid hv0; clear hv0
  generalize hll : ws.length = m at *
  refine callsIn_of_wp_marks Try.func40 rfl hf ?_ hro
  simp only [Try.ntmps40, List.size_toArray, List.length_cons, List.length_nil, Nat.reduceAdd, Nat.reduceSub, Array.replicate_succ, Array.replicate_zero, List.push_toArray, List.append_toArray, List.nil_append, List.cons_append]
  gi_wp2_with (gi_at_call 41; refine (of_in F (n - 1) hf1 hro _ _ _ _ _ _ _).mono ?_; rintro e w' ⟨rfl, rfl⟩)
  obtain ⟨W0, hW0⟩ : ∃ W0, (((((((w.alloc (.cells #[.int .i64 tick] 3)).alloc (.cells #[.int .i64 0, .int .i64 0, .int .i64 0, .int .i64 0, .int .i64 0, .int .i64 0] 54)).alloc (.cells #[.bool false] 4)).alloc (.cells #[.slice sa m cap] 24)).alloc (.cells #[.int .i64 kind] 3)).alloc (.cells #[.int .i64 a] 3)).alloc (.cells #[.int .i64 b] 3)) = W0 := ⟨_, rfl⟩
  have b0 : Blk W0 w.heap.size #[.int .i64 tick] 3 := by rw [← hW0]; exact blk_alloc (blk_alloc (blk_alloc (blk_alloc (blk_alloc (blk_alloc (blk_new w _ _) _) _) _) _) _) _
  have b1 : Blk W0 (w.heap.size + 1) #[.int .i64 0, .int .i64 0, .int .i64 0, .int .i64 0, .int .i64 0, .int .i64 0] 54 := by rw [← hW0]; exact blk_alloc (blk_alloc (blk_alloc (blk_alloc (blk_alloc (blk_new' _ _ _ _ (by simp)) _) _) _) _) _
  have b2 : Blk W0 (w.heap.size + 1 + 1) #[.bool false] 4 := by rw [← hW0]; exact blk_alloc (blk_alloc (blk_alloc (blk_alloc (blk_new' _ _ _ _ (by simp)) _) _) _) _
  have b3 : Blk W0 (w.heap.size + 1 + 1 + 1) #[.slice sa m cap] 24 := by rw [← hW0]; exact blk_alloc (blk_alloc (blk_alloc (blk_new' _ _ _ _ (by simp)) _) _) _
  have b4 : Blk W0 (w.heap.size + 1 + 1 + 1 + 1) #[.int .i64 kind] 3 := by rw [← hW0]; exact blk_alloc (blk_alloc (blk_new' _ _ _ _ (by simp)) _) _
  have b5 : Blk W0 (w.heap.size + 1 + 1 + 1 + 1 + 1) #[.int .i64 a] 3 := by rw [← hW0]; exact blk_alloc (blk_new' _ _ _ _ (by simp)) _
  have b6 : Blk W0 (w.heap.size + 1 + 1 + 1 + 1 + 1 + 1) #[.int .i64 b] 3 := by rw [← hW0]; exact blk_new' _ _ _ _ (by simp)
  have k0 : Keeps (fun _ => False) w W0 := by rw [← hW0]; repeat (first | (with_reducible assumption) | (with_reducible exact Keeps.refl _ _) | (with_reducible apply Keeps.drewN) | (with_reducible apply Keeps.drew) | (with_reducible apply Keeps.alloc) | refine Keeps.setCell ?_ (by first | (simp; done) | (simp; omega)) _)
  have hs0 : W0.heap.size = w.heap.size + 7 := by rw [← hW0]; simp
  have hB0 : Below w.heap.size w W0 := k0.below (Nat.le_refl _) (fun _ _ h => h)
  have hI0 : Wins (fun k => k < W0.heap.size) W0 (.slice sa m cap) ws := (HV.out.keep k0 (fun _ _ _ h => h)).mono (fun b h _ => h)
  have hge : w.heap.size + 1 + 1 + 1 + 4 ≤ W0.heap.size := by omega
  have hge2 : w.heap.size ≤ W0.heap.size := by omega
  have HS0 := hid hs0
  clear hs0
  rw [hW0]
  refine wpIn_rangeFunc_ownH hro h1 (gf := 42) (lb := #[.pointer (some ⟨w.heap.size + 1 + 1 + 1, 0, none⟩), .pointer (some ⟨w.heap.size + 1 + 1 + 1 + 1, 0, none⟩), .pointer (some ⟨w.heap.size + 1 + 1 + 1 + 1 + 1, 0, none⟩), .pointer (some ⟨w.heap.size + 1 + 1 + 1 + 1 + 1 + 1, 0, none⟩)]) rfl hf2 (enters_of Try.func42 (by kernel_rfl) rfl)
    (of_stops F (n - 1) hf2 hro (by omega) (w.heap.size + 1 + 1 + 1) _ ws kind a b W0 hge (blk_cell b3 0) (blk_cell b4 0) (blk_cell b5 0) (blk_cell b6 0) hI0) belowK_t (belowK_b (Nat.le_refl _)) (Below.refl _ _) (fun _ => rfl)
    (fun pre W => (((∀ y ∈ pre, y.u ≤ tick) ∧ Blk W w.heap.size #[.int .i64 tick] 3) ∧ (Blk W (w.heap.size + 1) #[.int .i64 0, .int .i64 0, .int .i64 0, .int .i64 0, .int .i64 0, .int .i64 0] 54 ∧ Blk W (w.heap.size + 1 + 1) #[.bool false] 4)) ∧ (Below w.heap.size w W ∧ W0.heap.size ≤ W.heap.size))
    (fun c pre W => (c = .ret ∧ ∃ ini last, pre = ini ++ [last] ∧ (∀ y ∈ ini, y.u ≤ tick) ∧ tick < last.u ∧ Blk W (w.heap.size + 1) #[.int .i64 last.k, .int .i64 last.a, .int .i64 last.b, .int .i64 last.f, .int .i64 last.u, .int .i64 last.r] 54 ∧ Blk W (w.heap.size + 1 + 1) #[.bool true] 4) ∧ Below w.heap.size w W)
    (OwnFrom.and (Go.Own.from (fun s A B row hs hg hr => ⟨⟨hs.1.1, blk_own _ _ (fun _ => _) s A B row hs.1.2 hg hr⟩, blk_own _ _ (fun _ => _) s A B row hs.2.1 hg hr, blk_own _ _ (fun _ => _) s A B row hs.2.2 hg hr⟩) _) (OwnFrom.and (ownFrom_below (Nat.le_refl _) hge2) (fun s A B row hs hg hr => Nat.le_trans hs hg.size)))
    (fun c => OwnFrom.and (Go.Own.from (fun s A B row hs hg hr => by obtain ⟨hc, ini, last, e1, e2, e3, e4, e5⟩ := hs; exact ⟨hc, ini, last, e1, e2, e3, blk_own _ _ (fun _ => _) s A B row e4 hg hr, blk_own _ _ (fun _ => _) s A B row e5 hg hr⟩) _) (ownFrom_below (Nat.le_refl _) hge2))
    ⟨⟨⟨by simp, b0⟩, b1, b2⟩, hB0, Nat.le_refl _⟩
    (fun x a' W => ∃ Bx, W0.heap.size ≤ Bx ∧ Blk W Bx #[.int .i64 x.k, .int .i64 x.a, .int .i64 x.b, .int .i64 x.f, .int .i64 x.u, .int .i64 x.r] 54 ∧ a' = { tmps := #[.slice sa m cap, .int .i64 kind, .int .i64 a, .int .i64 b, .int .i64 tick, undef, undef, undef, undef, .pointer (some ⟨w.heap.size, 0, none⟩), .pointer (some ⟨w.heap.size + 1, 0, none⟩), .pointer (some ⟨w.heap.size + 1 + 1, 0, none⟩), .pointer (some ⟨Bx, 0, none⟩), .slice sa m cap, .int .i64 kind, .int .i64 a, .int .i64 b, .func (.func 42) #[] #[.pointer (some ⟨w.heap.size + 1 + 1 + 1, 0, none⟩), .pointer (some ⟨w.heap.size + 1 + 1 + 1 + 1, 0, none⟩), .pointer (some ⟨w.heap.size + 1 + 1 + 1 + 1 + 1, 0, none⟩), .pointer (some ⟨w.heap.size + 1 + 1 + 1 + 1 + 1 + 1, 0, none⟩)], .agg #[.int .i64 x.k, .int .i64 x.a, .int .i64 x.b, .int .i64 x.f, .int .i64 x.u, .int .i64 x.r], undef, undef, undef, undef, undef, undef], defers := [] })
    (fun x a' _ X Y row hs hg hr => by obtain ⟨Bx, h1, h2, h3⟩ := hs; exact ⟨Bx, h1, blk_own Bx _ (fun (_ : Unit) => _) () X Y row h2 hg (fun r e => (hr r e).2), h3⟩)
    ?assign ?body ?done ?stop
  case assign =>
    rintro l pre x W K ⟨⟨⟨p1, p2⟩, p3, p4⟩, p5, p6⟩ hK
    gi_wp2
    exact hK _ _ ((KeepsOthers.alloc _ _).from _) ((Below.refl _ W).alloc p6 _) ⟨⟨⟨p1, blk_alloc p2 _⟩, blk_alloc p3 _, blk_alloc p4 _⟩, p5.alloc p5.size _, by simp; omega⟩ ⟨W.heap.size, p6, blk_new W _ _, rfl⟩
  case body =>
    rintro l pre x a' W hl ⟨r, hr⟩ ⟨⟨⟨p1, p2⟩, p3, p4⟩, p5, p6⟩ ⟨Bx, hBx, bX, rfl⟩ hlt
    have c0 := blk_cell p2 0
    have x0 : W.cell? ⟨Bx, 0, none⟩ = some (.int .i64 x.k) := blk_cell bX 0
    have x1 : W.cell? ⟨Bx, 1, none⟩ = some (.int .i64 x.a) := blk_cell bX 1
    have x2 : W.cell? ⟨Bx, 2, none⟩ = some (.int .i64 x.b) := blk_cell bX 2
    have x3 : W.cell? ⟨Bx, 3, none⟩ = some (.int .i64 x.f) := blk_cell bX 3
    have x4 : W.cell? ⟨Bx, 4, none⟩ = some (.int .i64 x.u) := blk_cell bX 4
    have x5 : W.cell? ⟨Bx, 5, none⟩ = some (.int .i64 x.r) := blk_cell bX 5
    have z0 : W.cell? ⟨w.heap.size + 1, 0, none⟩ = some (.int .i64 0) := blk_cell p3 0
    have y1 : W.cell? ⟨w.heap.size + 1, 1, none⟩ = some (.int .i64 0) := blk_cell p3 1
    have y2 : W.cell? ⟨w.heap.size + 1, 2, none⟩ = some (.int .i64 0) := blk_cell p3 2
    have y3 : W.cell? ⟨w.heap.size + 1, 3, none⟩ = some (.int .i64 0) := blk_cell p3 3
    have y4 : W.cell? ⟨w.heap.size + 1, 4, none⟩ = some (.int .i64 0) := blk_cell p3 4
    have y5 : W.cell? ⟨w.heap.size + 1, 5, none⟩ = some (.int .i64 0) := blk_cell p3 5
    have g0 := blk_free p3 0
    have g1 := blk_free p3 1
    have g2 := blk_free p3 2
    have g3 := blk_free p3 3
    have g4 := blk_free p3 4
    have g5 := blk_free p3 5
    have q0 : W.cell? ⟨w.heap.size + 1 + 1, 0, none⟩ = some (.bool false) := blk_cell p4 0
    have h0 := blk_free p4 0
    have HP1 := hid p1; have HP2 := hid p2; have HP3 := hid p3; have HP4 := hid p4; have HP5 := hid p5
    clear p1 p2 p3 p4 p5 bX
    gi_wp2
    · have hx : tick < x.u := by assumption
      have e1 := blk_other (c := w.heap.size + 1 + 1) (blk_set (blk_set (blk_set (blk_set (blk_set (blk_set HP3.out 0 (.int .i64 x.k)) 1 (.int .i64 x.a)) 2 (.int .i64 x.b)) 3 (.int .i64 x.f)) 4 (.int .i64 x.u)) 5 (.int .i64 x.r)) (by omega) 0 (.bool true)
      have e2 := blk_set (blk_other (c := w.heap.size + 1) (blk_other (c := w.heap.size + 1) (blk_other (c := w.heap.size + 1) (blk_other (c := w.heap.size + 1) (blk_other (c := w.heap.size + 1) (blk_other (c := w.heap.size + 1) HP4.out (by omega) 0 (.int .i64 x.k)) (by omega) 1 (.int .i64 x.a)) (by omega) 2 (.int .i64 x.b)) (by omega) 3 (.int .i64 x.f)) (by omega) 4 (.int .i64 x.u)) (by omega) 5 (.int .i64 x.r)) 0 (.bool true)
      simp only [List.setIfInBounds_toArray, List.set_cons_zero, List.set_cons_succ] at e1 e2
      have key : ∀ (W' : World), KeepsOthers W W' → Below w.heap.size W W' → Blk W' (w.heap.size + 1) #[.int .i64 x.k, .int .i64 x.a, .int .i64 x.b, .int .i64 x.f, .int .i64 x.u, .int .i64 x.r] 54 → Blk W' (w.heap.size + 1 + 1) #[.bool true] 4 →
          KeepsFrom W0.heap.size W W' ∧ ((Code.ret = .ret ∧ ∃ ini last, pre ++ [x] = ini ++ [last] ∧ (∀ y ∈ ini, y.u ≤ tick) ∧ tick < last.u ∧ Blk W' (w.heap.size + 1) #[.int .i64 last.k, .int .i64 last.a, .int .i64 last.b, .int .i64 last.f, .int .i64 last.u, .int .i64 last.r] 54 ∧ Blk W' (w.heap.size + 1 + 1) #[.bool true] 4) ∧ Below w.heap.size w W') :=
        fun W' ho hb e1 e2 => ⟨ho.from _, ⟨rfl, pre, x, rfl, HP1.out, hx, e1, e2⟩, HP5.out.trans hb⟩
      refine key _ ?_ ?_ e1 e2
      · exact ((((((KeepsOthers.setCell _ _ _).trans (KeepsOthers.setCell _ _ _)).trans (KeepsOthers.setCell _ _ _)).trans (KeepsOthers.setCell _ _ _)).trans (KeepsOthers.setCell _ _ _)).trans (KeepsOthers.setCell _ _ _)).trans (KeepsOthers.setCell _ _ _)
      · exact (((((((Below.refl w.heap.size W).setCell (by simp) _).setCell (by simp) _).setCell (by simp) _).setCell (by simp) _).setCell (by simp) _).setCell (by simp) _).setCell (by simp; omega) _
    · have hx : x.u ≤ tick := by omega
      exact ⟨KeepsFrom.refl _ _, Below.refl _ _, ⟨⟨fun y hy => (List.mem_append.1 hy).elim (HP1.out y) (fun e => by simp at e; subst e; exact hx), HP2.out⟩, HP3.out, HP4.out⟩, HP5.out, p6⟩
  case done =>
    rintro D ys W hD rfl ⟨⟨⟨p1, p2⟩, p3, p4⟩, p5, p6⟩ hK
    have hnx : nextW ws kind a b tick = none := by
      unfold nextW
      rw [List.find?_eq_none]; intro y hy; have := p1 y hy; simp; omega
    have y0 : W.cell? ⟨w.heap.size + 1, 0, none⟩ = some (.int .i64 0) := blk_cell p3 0
    have y1 : W.cell? ⟨w.heap.size + 1, 1, none⟩ = some (.int .i64 0) := blk_cell p3 1
    have y2 : W.cell? ⟨w.heap.size + 1, 2, none⟩ = some (.int .i64 0) := blk_cell p3 2
    have y3 : W.cell? ⟨w.heap.size + 1, 3, none⟩ = some (.int .i64 0) := blk_cell p3 3
    have y4 : W.cell? ⟨w.heap.size + 1, 4, none⟩ = some (.int .i64 0) := blk_cell p3 4
    have y5 : W.cell? ⟨w.heap.size + 1, 5, none⟩ = some (.int .i64 0) := blk_cell p3 5
    have g0 := blk_free p3 0
    have g1 := blk_free p3 1
    have g2 := blk_free p3 2
    have g3 := blk_free p3 3
    have g4 := blk_free p3 4
    have g5 := blk_free p3 5
    have q0 : W.cell? ⟨w.heap.size + 1 + 1, 0, none⟩ = some (.bool false) := blk_cell p4 0
    have h0 := blk_free p4 0
    have HP3 := hid p3; have HP4 := hid p4; have HP5 := hid p5
    clear p1 p2 p3 p4 p5
    gi_wp2
    have e1 := blk_other (c := w.heap.size + 1 + 1) (blk_set (blk_set (blk_set (blk_set (blk_set (blk_set HP3.out 0 (.int .i64 0)) 1 (.int .i64 0)) 2 (.int .i64 0)) 3 (.int .i64 0)) 4 (.int .i64 0)) 5 (.int .i64 0)) (by omega) 0 (.bool false)
    have e2 := blk_set (blk_other (c := w.heap.size + 1) (blk_other (c := w.heap.size + 1) (blk_other (c := w.heap.size + 1) (blk_other (c := w.heap.size + 1) (blk_other (c := w.heap.size + 1) (blk_other (c := w.heap.size + 1) HP4.out (by omega) 0 (.int .i64 0)) (by omega) 1 (.int .i64 0)) (by omega) 2 (.int .i64 0)) (by omega) 3 (.int .i64 0)) (by omega) 4 (.int .i64 0)) (by omega) 5 (.int .i64 0)) 0 (.bool false)
    simp only [List.setIfInBounds_toArray, List.set_cons_zero, List.set_cons_succ] at e1 e2
    have hB' := (((((((Below.refl w.heap.size W).setCell (p := ⟨w.heap.size + 1, 0, none⟩) (by simp) (.int .i64 0)).setCell (p := ⟨w.heap.size + 1, 1, none⟩) (by simp) (.int .i64 0)).setCell (p := ⟨w.heap.size + 1, 2, none⟩) (by simp) (.int .i64 0)).setCell (p := ⟨w.heap.size + 1, 3, none⟩) (by simp) (.int .i64 0)).setCell (p := ⟨w.heap.size + 1, 4, none⟩) (by simp) (.int .i64 0)).setCell (p := ⟨w.heap.size + 1, 5, none⟩) (by simp) (.int .i64 0)).setCell (p := ⟨w.heap.size + 1 + 1, 0, none⟩) (by simp; omega) (.bool false)
    have hO' := ((((((KeepsOthers.setCell W ⟨w.heap.size + 1, 0, none⟩ (.int .i64 0)).trans (KeepsOthers.setCell _ ⟨w.heap.size + 1, 1, none⟩ (.int .i64 0))).trans (KeepsOthers.setCell _ ⟨w.heap.size + 1, 2, none⟩ (.int .i64 0))).trans (KeepsOthers.setCell _ ⟨w.heap.size + 1, 3, none⟩ (.int .i64 0))).trans (KeepsOthers.setCell _ ⟨w.heap.size + 1, 4, none⟩ (.int .i64 0))).trans (KeepsOthers.setCell _ ⟨w.heap.size + 1, 5, none⟩ (.int .i64 0))).trans (KeepsOthers.setCell _ ⟨w.heap.size + 1 + 1, 0, none⟩ (.bool false))
    have hK' := hO'.same D _ hK rfl
    clear hO'
    generalize ((((((W.setCell ⟨w.heap.size + 1, 0, none⟩ (.int .i64 0)).setCell ⟨w.heap.size + 1, 1, none⟩ (.int .i64 0)).setCell ⟨w.heap.size + 1, 2, none⟩ (.int .i64 0)).setCell ⟨w.heap.size + 1, 3, none⟩ (.int .i64 0)).setCell ⟨w.heap.size + 1, 4, none⟩ (.int .i64 0)).setCell ⟨w.heap.size + 1, 5, none⟩ (.int .i64 0)).setCell ⟨w.heap.size + 1 + 1, 0, none⟩ (.bool false) = W9 at *
    refine ⟨by simp, .inl ⟨_, _, rfl, run_takeDeferred hK', ?_⟩⟩
    have e7 := blk_own _ _ (fun (_ : Unit) => _) () _ _ _ e1 (grownBy_putObj' _ D (.deferred none)) (fun r e => by cases e; exact ⟨_, hK', rfl⟩)
    have e8 := blk_own _ _ (fun (_ : Unit) => _) () _ _ _ e2 (grownBy_putObj' _ D (.deferred none)) (fun r e => by cases e; exact ⟨_, hK', rfl⟩)
    have c0 : (W9.putObj D (.deferred none)).cell? ⟨w.heap.size + 1, 0, none⟩ = some (.int .i64 0) := blk_cell e7 0
    have c1 : (W9.putObj D (.deferred none)).cell? ⟨w.heap.size + 1, 1, none⟩ = some (.int .i64 0) := blk_cell e7 1
    have c2 : (W9.putObj D (.deferred none)).cell? ⟨w.heap.size + 1, 2, none⟩ = some (.int .i64 0) := blk_cell e7 2
    have c3 : (W9.putObj D (.deferred none)).cell? ⟨w.heap.size + 1, 3, none⟩ = some (.int .i64 0) := blk_cell e7 3
    have c4 : (W9.putObj D (.deferred none)).cell? ⟨w.heap.size + 1, 4, none⟩ = some (.int .i64 0) := blk_cell e7 4
    have c5 : (W9.putObj D (.deferred none)).cell? ⟨w.heap.size + 1, 5, none⟩ = some (.int .i64 0) := blk_cell e7 5
    have c6 : (W9.putObj D (.deferred none)).cell? ⟨w.heap.size + 1 + 1, 0, none⟩ = some (.bool false) := blk_cell e8 0
    refine ⟨.tuple #[.agg #[.int .i64 0, .int .i64 0, .int .i64 0, .int .i64 0, .int .i64 0, .int .i64 0], .bool false], ?_, by rw [hnx]; rfl, (HP5.out.trans hB').trans (belowK_b (w := w) (Nat.le_refl _) W9 D _ _ (by omega) hK' rfl rfl)⟩
    simp [results, Try.f40, go_sem, c0, c1, c2, c3, c4, c5, c6]
  case stop =>
    rintro D c pre W hD ⟨k, hk, rfl⟩ ⟨⟨rfl, ini, last, e1, e2, e3, e4, e5⟩, e6⟩ hK
    have hnx : nextW ws kind a b tick = some last := by
      unfold nextW
      conv => lhs; rw [← List.take_append_drop k ws]
      rw [List.filter_append, e1, List.append_assoc, List.find?_append]
      have : ini.find? (fun x => decide (tick < x.u)) = none := by rw [List.find?_eq_none]; intro y hy; have := e2 y hy; simp; omega
      rw [this]; simp [e3]
    gi_wp2
    refine ⟨by simp, .inl ⟨_, _, rfl, run_takeDeferred hK, ?_⟩⟩
    have e7 := blk_own _ _ (fun (_ : Unit) => _) () _ _ _ e4 (grownBy_putObj' _ D (.deferred none)) (fun r e => by cases e; exact ⟨_, hK, rfl⟩)
    have e8 := blk_own _ _ (fun (_ : Unit) => _) () _ _ _ e5 (grownBy_putObj' _ D (.deferred none)) (fun r e => by cases e; exact ⟨_, hK, rfl⟩)
    have c0 : (W.putObj D (.deferred none)).cell? ⟨w.heap.size + 1, 0, none⟩ = some (.int .i64 last.k) := blk_cell e7 0
    have c1 : (W.putObj D (.deferred none)).cell? ⟨w.heap.size + 1, 1, none⟩ = some (.int .i64 last.a) := blk_cell e7 1
    have c2 : (W.putObj D (.deferred none)).cell? ⟨w.heap.size + 1, 2, none⟩ = some (.int .i64 last.b) := blk_cell e7 2
    have c3 : (W.putObj D (.deferred none)).cell? ⟨w.heap.size + 1, 3, none⟩ = some (.int .i64 last.f) := blk_cell e7 3
    have c4 : (W.putObj D (.deferred none)).cell? ⟨w.heap.size + 1, 4, none⟩ = some (.int .i64 last.u) := blk_cell e7 4
    have c5 : (W.putObj D (.deferred none)).cell? ⟨w.heap.size + 1, 5, none⟩ = some (.int .i64 last.r) := blk_cell e7 5
    have c6 : (W.putObj D (.deferred none)).cell? ⟨w.heap.size + 1 + 1, 0, none⟩ = some (.bool true) := blk_cell e8 0
    refine ⟨.tuple #[.agg #[.int .i64 last.k, .int .i64 last.a, .int .i64 last.b, .int .i64 last.f, .int .i64 last.u, .int .i64 last.r], .bool true], ?_, by rw [hnx]; rfl, e6.trans (belowK_b (w := w) (Nat.le_refl _) W D _ _ (by omega) hK rfl rfl)⟩
    simp [results, Try.f40, go_sem, c0, c1, c2, c3, c4, c5, c6]
theorem Next_any (v : Value) (ws : List Win) (kind a b tick : Int) (w : World) (hv : Wins (fun k => k < w.heap.size) w v ws) :
    Calls Try.prog 40 #[v, .int .i64 kind, .int .i64 a, .int .i64 b, .int .i64 tick] w fun e W' => NextPost (nextW ws kind a b tick) e ∧ Keeps (fun _ => False) w W' := by
  refine ((callsIn_wide (n := 3)).1 (Next_in Fence.wide 3 trivial trivial trivial rfl (Nat.le_refl _) v ws kind a b tick w hv)).mono ?_
  rintro e W' ⟨h1, h2⟩
  exact ⟨h1, (Keeps.of_below h2).mono (fun b hb h => by omega)⟩
end Go.Proofs.Ytjapmpolagblaaa
