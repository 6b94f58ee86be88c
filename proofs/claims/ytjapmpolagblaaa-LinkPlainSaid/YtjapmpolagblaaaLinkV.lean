/- Link: the generator Table. -/
import Derived.Test.YtjapmpolagblaaaLinkU
namespace Go.Proofs.Ytjapmpolagblaaa
open Go.RowKit
attribute [local go_sem ↓] Go.wp_at_zero Go.wp_at_succ
theorem flat_len {α : Type} (f : α → List Value) (s : Nat) (hf : ∀ x, (f x).length = s) (l : List α) : (l.flatMap f).length = l.length * s := by
  induction l with
  | nil => simp
  | cons x l ih => rw [List.flatMap_cons, List.length_append, ih, hf, List.length_cons, Nat.succ_mul]; omega
theorem flat_get {α : Type} (f : α → List Value) (s : Nat) (hf : ∀ x, (f x).length = s) : ∀ (l : List α) (k : Nat) (x : α) (j : Nat), l[k]? = some x → j < s → (l.flatMap f)[k * s + j]? = (f x)[j]? := by
  intro l
  induction l with
  | nil => intro k x j h; simp at h
  | cons y l ih =>
    intro k x j h hj
    rw [List.flatMap_cons]
    cases k with
    | zero =>
      simp at h; subst h
      rw [Nat.zero_mul, Nat.zero_add, List.getElem?_append_left (by rw [hf]; exact hj)]
    | succ k =>
      have e : (k + 1) * s + j = s + (k * s + j) := by rw [Nat.succ_mul]; omega
      rw [e, List.getElem?_append_right (by rw [hf]; omega), hf, Nat.add_sub_cancel_left]
      exact ih k x j (by simpa using h) hj
def winC (x : Win) : List Value := [.int .i64 x.k, .int .i64 x.a, .int .i64 x.b, .int .i64 x.f, .int .i64 x.u, .int .i64 x.r]
def winX (l : List Win) : List Value := l.flatMap winC
theorem winX_len (l : List Win) : (winX l).length = l.length * 6 := flat_len winC 6 (fun _ => rfl) l
theorem winX_one (l : List Win) : ∀ u ∈ winX l, u.oneCell' = true := by
  intro u hu
  obtain ⟨x, _, hx⟩ := List.mem_flatMap.1 hu
  simp [winC] at hx
  rcases hx with rfl | rfl | rfl | rfl | rfl | rfl <;> rfl
theorem wins_of {K : Nat → Prop} {w : World} {v : Value} {l : List Win} (h : Row K w 6 v l.length (winX l)) : Wins K w v l := by
  obtain ⟨a, cap, e, h1, h2, h3⟩ := h.form
  refine ⟨a, cap, e, h1, h2, fun k hk => ?_⟩
  obtain ⟨b, o, ha, g1, g2, g3⟩ := h3 (by omega)
  have hx : l[k]? = some l[k] := List.getElem?_eq_getElem hk
  have key : ∀ j, j < 6 → w.cell? ⟨b, o + k * 6 + j, none⟩ = some ((winC l[k]).getD j undef) := fun j hj => by
    have := g3 (k * 6 + j) (by omega)
    rw [Nat.add_assoc, this, List.getD]
    unfold winX
    rw [flat_get winC 6 (fun _ => rfl) l k _ j hx hj]; rfl
  exact ⟨b, o, l[k], ha, g1, g2, hx, key 0 (by omega), key 1 (by omega), key 2 (by omega), key 3 (by omega), key 4 (by omega), key 5 (by omega)⟩
theorem infoWn : (Try.prog.info? 54).map (fun i => (i.size, i.bytes)) = some (6, 48) := by kernel_rfl
theorem infoWnz : ((Try.prog.info? 54).bind (·.zero)).map (fun z => z.cells) = some #[.int .i64 0, .int .i64 0, .int .i64 0, .int .i64 0, .int .i64 0, .int .i64 0] := by kernel_rfl
theorem wn_parts : ∃ i z, Try.prog.info? 54 = some i ∧ i.zero = some z ∧ i.size = 6 ∧ i.bytes = 48 ∧ z.cells.size = 6 := by
  obtain ⟨i, hi, h1⟩ := Option.map_eq_some_iff.1 infoWn
  have h2 := infoWnz
  rw [hi] at h2
  obtain ⟨z, hz, h3⟩ := Option.map_eq_some_iff.1 h2
  simp only [Prod.mk.injEq] at h1
  exact ⟨i, z, hi, hz, h1.1, h1.2, by rw [h3]; rfl⟩
def SrtW (l : List Win) : Prop := l.Pairwise (fun x y => x.f ≤ y.f)
def TabPost (w : World) (r : Ending) (w' : World) : Prop := ∃ (a : Option Addr) (n c : Nat) (ws : List Win), r = .returned (.slice a n c) ∧ n = ws.length ∧ ws.length ≤ 8 ∧ Wins (fun b => w.heap.size ≤ b) w' (.slice a n c) ws ∧ SrtW ws ∧ Keeps (fun _ => False) w w'
def TabB (W : World) (bw : Nat) (F : Int) (wx : World) : Prop := ∃ x : Win, x.f = F ∧ Blk wx bw #[.int .i64 x.k, .int .i64 x.a, .int .i64 x.b, .int .i64 x.f, .int .i64 x.u, .int .i64 x.r] 54 ∧ Keeps (fun b => b = bw) W wx
def MoreP (wq : World) (ws : List Win) (n : Nat) (x : Win) (u : Value) (wx : World) : Prop := ∃ (a : Option Addr) (c : Nat), u = .slice a (n + 1) c ∧ Row (fun b => wq.heap.size ≤ b) wx 6 (.slice a (n + 1) c) (n + 1) (winX (ws ++ [x])) ∧ Keeps (fun _ => False) wq wx
theorem srtW_app {l : List Win} {x : Win} (h : SrtW l) (hx : ∀ y ∈ l, y.f ≤ x.f) : SrtW (l ++ [x]) := by
  unfold SrtW at *
  rw [List.pairwise_append]
  exact ⟨h, List.pairwise_singleton _ _, fun y hy z hz => by simp at hz; subst hz; exact hx y hy⟩
set_option maxRecDepth 100000 in set_option maxHeartbeats 1000000 in
theorem Table_any (v : Value) (l : List Int) (w : World) (hv : Sl (fun b => b < w.heap.size) w v (i64s l)) (hl : ∀ n ∈ l, -9223372036854775808 ≤ n ∧ n ≤ 9223372036854775807) :
    Calls Try.prog 5 #[v] w fun e w' => TabPost w e w' := by
  obtain ⟨i0, zz, hi, hz0, hz1, hz2, hz3⟩ := wn_parts
  obtain ⟨sa, cap, rfl, hcap, hcm, hel⟩ := hv.ints
  unfold maxLen at hcm
  have HEL := hid hel; have HLB := hid hl
  clear hel hl hv
  generalize hm : l.length = m at *
  have HM := hid hm; clear hm
  go_enter Try.func5, Try.ntmps5
  go_wp2_with fail
  go_loopw [3, 4, 5] (fun o t i wr => ∃ (k : Nat) (A : Int) (a : Option Addr) (n c : Nat) (ws : List Win), o = .slice a n c ∧ t = .int .i64 A ∧ i = .int .i64 k ∧ k ≤ m ∧ k ≤ 8 ∧ 0 ≤ A ∧ A ≤ 3 * k ∧ n ≤ k ∧ Hd (ws.length = n) ∧ Hd (SrtW ws) ∧ Hd (∀ x ∈ ws, x.f ≤ A) ∧ Hd (Row (fun b => w.heap.size ≤ b) wr 6 (.slice a n c) n (winX ws)) ∧ Hd (Keeps (fun _ => False) w wr)) (fun _ _ i _ => m - (intOf i).toNat)
  case atStart => exact ⟨0, 0, none, 0, 0, [], rfl, rfl, rfl, Nat.zero_le _, Nat.zero_le _, Int.le_refl _, by simp, Nat.le_refl _, hid rfl, hid List.Pairwise.nil, hid (by simp), hid ⟨rfl, .inl ⟨rfl, rfl⟩⟩, hid (Keeps.refl _ _)⟩
  case round =>
    obtain ⟨k, A, a, n, c, ws, rfl, rfl, rfl, hk, hk8, hA0, hA1, hnk, HLN, HSRT, HFA, HW, KR⟩ := hrel
    have zr := KR.out.size
    by_cases hkm : k < m ∧ k < 8
    · obtain ⟨h1, h2⟩ := hkm
      obtain ⟨b, o, rfl, hb1, hb2, hc4⟩ := HEL.out (by omega)
      have f0 := keep_cell KR.out (fun h => h) (hc4 k h1)
      have hzb := HLB.out (l.getD k 0) (by rw [List.getD, List.getElem?_eq_getElem (by rw [HM.out]; exact h1)]; exact List.getElem_mem _)
      generalize l.getD k 0 = z at *
      have B1 := hid hzb.1; have B2 := hid hzb.2
      clear hc4 hzb
      have k1 : (k : Int) < m := by omega
      have k2 : (0 : Int) ≤ k := by omega
      have k3 : (k : Int) < 8 := by omega
      go_wp2_with fail
      refine (Around_any z _ _ B1.out B2.out (by omega) (by omega)).mono ?_
      rintro e wx ⟨rfl, rfl⟩
      obtain ⟨b0, b1⟩ := around_b z (show (1 : Int) ≤ 1000000 by omega)
      generalize around z 1000000 = v at *
      have e1 : 0 ≤ v % 4 ∧ v % 4 < 4 := by omega
      have e2 : 0 ≤ v / 24 % 15 ∧ v / 24 % 15 < 15 := by omega
      have e3 : 0 ≤ v / 360 % 40 ∧ v / 360 % 40 < 40 := by omega
      go_upto_if 52 with fail
      generalize hW : World.alloc _ _ = W1
      have BW : Hd (Blk W1 wr.heap.size #[.int .i64 1, .int .i64 (v / 4 % 3), .int .i64 (v / 12 % 2), .int .i64 (A + v % 4), .int .i64 (A + v % 4 + 1 + v / 24 % 15), .int .i64 (1 + v / 360 % 40)] 54) := hid (by rw [← hW]; exact blk_new _ _ _)
      have K1 : Hd (Keeps (fun _ => False) wr W1) := hid (by rw [← hW]; exact keeps_alloc _ _ _)
      have hF : A ≤ A + v % 4 ∧ A + v % 4 ≤ A + 3 := by omega
      clear hW e1 e2 e3 f0
      generalize v / 4 % 3 = va at *
      generalize v / 12 % 2 = vb at *
      generalize 1 + v / 360 % 40 = vr at *
      generalize A + v % 4 + 1 + v / 24 % 15 = vu at *
      generalize A + v % 4 = F at *
      have zb := blk_lt BW.out
      go_cut [] from 53 to 58 (fun wx => Hd (TabB W1 wr.heap.size F wx))
      case first =>
        have o0 : W1.cell? ⟨wr.heap.size, 0, none⟩ = some (.int .i64 1) := blk_cell BW.out 0
        have o1 : W1.cell? ⟨wr.heap.size, 1, none⟩ = some (.int .i64 va) := blk_cell BW.out 1
        have o2 : W1.cell? ⟨wr.heap.size, 2, none⟩ = some (.int .i64 vb) := blk_cell BW.out 2
        have p0 := blk_free BW.out 0; have p1 := blk_free BW.out 1; have p2 := blk_free BW.out 2
        by_cases h7 : v / 7 % 3 = 0
        · have d7 : (v / 7 % 3 == 0) = true := by simp; exact h7
          clear h7
          go_wp2_with fail
          go_meet
          have hB := blk_set (blk_set (blk_set BW.out 0 (.int .i64 2)) 1 (.int .i64 (v / 4 % 2))) 2 (.int .i64 2)
          simp only [List.setIfInBounds_toArray, List.set_cons_zero, List.set_cons_succ] at hB
          exact hid ⟨⟨2, v / 4 % 2, 2, F, vu, vr⟩, rfl, hB, (by repeat (first | (with_reducible exact Keeps.refl _ _) | (with_reducible apply keq)))⟩
        · have d7 : (v / 7 % 3 == 0) = false := by simp; exact h7
          clear h7
          go_wp2_with fail
          go_meet
          exact hid ⟨⟨1, va, vb, F, vu, vr⟩, rfl, BW.out, (by repeat (first | (with_reducible exact Keeps.refl _ _) | (with_reducible apply keq)))⟩
      case rest =>
        obtain ⟨x, hxf, hbx, hkx⟩ := hcut.out
        generalize wc = wq at *
        have BX := hid hbx
        have KX : Hd (Keeps (fun b => b = wr.heap.size) wr wq) := hid ((K1.out.mono (fun _ _ h => h.elim)).trans hkx)
        have HXF := hid hxf
        have KQ : Hd (Keeps (fun _ => False) w wq) := hid (KR.out.trans' KX.out (fun i hi h => by omega))
        have zq := KX.out.size
        have zx := blk_lt hbx
        have HROW : Hd (Row (fun b => w.heap.size ≤ b) wq 6 (.slice a n c) n (winX ws)) := hid (HW.out.keep KX.out (fun b hb _ h2 => by omega))
        clear hcut hbx hkx hxf BW K1 KX HW
        have HSS : Hd (∀ w', Keeps (fun b => wq.heap.size ≤ b) wq w' → (w'.cell? ⟨wr.heap.size, 0, none⟩ = some (.int .i64 x.k) ∧ w'.cell? ⟨wr.heap.size, 1, none⟩ = some (.int .i64 x.a) ∧ w'.cell? ⟨wr.heap.size, 2, none⟩ = some (.int .i64 x.b) ∧ w'.cell? ⟨wr.heap.size, 3, none⟩ = some (.int .i64 x.f) ∧ w'.cell? ⟨wr.heap.size, 4, none⟩ = some (.int .i64 x.u) ∧ w'.cell? ⟨wr.heap.size, 5, none⟩ = some (.int .i64 x.r))) := hid (fun w' hk => by
          have h := blk_keep BX.out hk (by omega)
          exact ⟨blk_cell h 0, blk_cell h 1, blk_cell h 2, blk_cell h 3, blk_cell h 4, blk_cell h 5⟩)
        have KC : Hd (Keeps (fun _ => False) wq wq) := hid (Keeps.refl _ _)
        have hn8 : n ≤ 8 := by omega
        go_upto_region 14 with fail
        go_cut [9] from 59 to 64 (fun u wx => MoreP wq ws n x u wx)
        case first =>
          go_region_held_law (fun w' => w'.cell? ⟨wr.heap.size, 0, none⟩ = some (.int .i64 x.k) ∧ w'.cell? ⟨wr.heap.size, 1, none⟩ = some (.int .i64 x.a) ∧ w'.cell? ⟨wr.heap.size, 2, none⟩ = some (.int .i64 x.b) ∧ w'.cell? ⟨wr.heap.size, 3, none⟩ = some (.int .i64 x.f) ∧ w'.cell? ⟨wr.heap.size, 4, none⟩ = some (.int .i64 x.u) ∧ w'.cell? ⟨wr.heap.size, 5, none⟩ = some (.int .i64 x.r)) (exact HSS.out _ (by first | (refine Keeps.mono (S := fun _ => False) ?_ (fun _ _ h => h.elim); (repeat (first | (with_reducible exact KC.out) | (with_reducible exact Keeps.refl _ _) | (with_reducible apply Keeps.drewN) | (with_reducible apply Keeps.drew) | (with_reducible apply Keeps.alloc))); done) | (repeat (first | (with_reducible exact K7.out) | (with_reducible exact Keeps.refl _ _) | (with_reducible apply Keeps.drewN) | (with_reducible apply Keeps.drew) | (with_reducible apply Keeps.alloc)))))
            (first
            | (refine step_append_own_row rfl (.tmp 59) (.tmp 60) 24 rfl 54 i0 zz 6 48 Try.underlying24 hi hz0 hz1 hz2 hz3 (by decide) (fun k => k = wq.heap.size) (fun b => w.heap.size ≤ b) (.slice (some ⟨wq.heap.size, 0, none⟩) 0 0) (.slice a n c) 0 [] (by simp [Act.eval, Act.put]) (own_blk0 (by (repeat (first | (with_reducible apply blk_drewN) | (with_reducible apply blk_drew) | (with_reducible refine blk_new' _ _ _ _ ?_) | (with_reducible apply blk_alloc))); (first | (with_reducible rfl) | (simp; done) | (simp; omega))) 6) n (winX ws) (by simp [Act.eval]) (HROW.out.keep (S := fun _ => False) (by repeat (first | (with_reducible exact KC.out) | (with_reducible exact Keeps.refl _ _) | (with_reducible apply Keeps.drewN) | (with_reducible apply Keeps.drew) | (with_reducible apply Keeps.alloc))) (fun _ _ _ h => h)) (winX_one _) (by simp [maxLen]; omega) (by omega) ?_; intro a6 c6 w6 hown6 hk6; have K6 : Hd (Keeps (fun _ => False) wq w6) := hid (Keeps.trans' (S := fun _ => False) (by repeat (first | (with_reducible exact KC.out) | (with_reducible exact Keeps.refl _ _) | (with_reducible apply Keeps.drewN) | (with_reducible apply Keeps.drew) | (with_reducible apply Keeps.alloc))) hk6 (fun i hi h => by omega)); have HO6 : Hd (Own (fun b => wq.heap.size ≤ b) w6 54 6 (.slice a6 n c6) n (winX ws)) := hid (by have h := hown6.mono (K' := fun b => wq.heap.size ≤ b) (fun b _ h => by rcases h with h | h <;> (try simp at h) <;> omega); simpa using h); (first | (have HLT : Hd (Blk w6 (wq.heap.size + 1) #[.int .i64 x.k, .int .i64 x.a, .int .i64 x.b, .int .i64 x.f, .int .i64 x.u, .int .i64 x.r] 54) := hid (blk_keep (by (repeat (first | (with_reducible apply blk_drewN) | (with_reducible apply blk_drew) | (with_reducible refine blk_new' _ _ _ _ ?_) | (with_reducible apply blk_alloc))); (first | (with_reducible rfl) | (simp; done) | (simp; omega))) hk6 (by simp))) | skip); have L6 : Hd (Keeps (fun _ => False) w6 w6) := hid (Keeps.refl _ _); replace KC := K6; clear hown6 hk6)
            | (refine step_append_own_row rfl (.tmp 59) (.tmp 60) 24 rfl 54 i0 zz 6 48 Try.underlying24 hi hz0 hz1 hz2 hz3 (by decide) (fun k => k = (wq.heap.size + 1)) (fun b => w.heap.size ≤ b) (.slice (some ⟨(wq.heap.size + 1), 0, none⟩) 0 0) (.slice a n c) 0 [] (by simp [Act.eval, Act.put]) (own_blk0 (by (repeat (first | (with_reducible apply blk_drewN) | (with_reducible apply blk_drew) | (with_reducible refine blk_new' _ _ _ _ ?_) | (with_reducible apply blk_alloc))); (first | (with_reducible rfl) | (simp; done) | (simp; omega))) 6) n (winX ws) (by simp [Act.eval]) (HROW.out.keep (S := fun _ => False) (by repeat (first | (with_reducible exact KC.out) | (with_reducible exact Keeps.refl _ _) | (with_reducible apply Keeps.drewN) | (with_reducible apply Keeps.drew) | (with_reducible apply Keeps.alloc))) (fun _ _ _ h => h)) (winX_one _) (by simp [maxLen]; omega) (by omega) ?_; intro a6 c6 w6 hown6 hk6; have K6 : Hd (Keeps (fun _ => False) wq w6) := hid (Keeps.trans' (S := fun _ => False) (by repeat (first | (with_reducible exact KC.out) | (with_reducible exact Keeps.refl _ _) | (with_reducible apply Keeps.drewN) | (with_reducible apply Keeps.drew) | (with_reducible apply Keeps.alloc))) hk6 (fun i hi h => by omega)); have HO6 : Hd (Own (fun b => wq.heap.size ≤ b) w6 54 6 (.slice a6 n c6) n (winX ws)) := hid (by have h := hown6.mono (K' := fun b => wq.heap.size ≤ b) (fun b _ h => by rcases h with h | h <;> (try simp at h) <;> omega); simpa using h); (first | (have HLT : Hd (Blk w6 wq.heap.size #[.int .i64 x.k, .int .i64 x.a, .int .i64 x.b, .int .i64 x.f, .int .i64 x.u, .int .i64 x.r] 54) := hid (blk_keep (by (repeat (first | (with_reducible apply blk_drewN) | (with_reducible apply blk_drew) | (with_reducible refine blk_new' _ _ _ _ ?_) | (with_reducible apply blk_alloc))); (first | (with_reducible rfl) | (simp; done) | (simp; omega))) hk6 (by simp))) | skip); have L6 : Hd (Keeps (fun _ => False) w6 w6) := hid (Keeps.refl _ _); replace KC := K6; clear hown6 hk6)
            | (refine step_append_own_row rfl (.tmp 61) (.tmp 63) 24 rfl 54 i0 zz 6 48 Try.underlying24 hi hz0 hz1 hz2 hz3 (by decide) (fun b => wq.heap.size ≤ b) (fun _ => True) (.slice a6 n c6) (.slice (some ⟨w6.heap.size, 0, none⟩) 1 1) n (winX ws) (by simp [Act.eval, Act.put]) (HO6.out.keep (S := fun _ => False) (by repeat (first | (with_reducible exact L6.out) | (with_reducible exact Keeps.refl _ _) | (with_reducible apply Keeps.drewN) | (with_reducible apply Keeps.drew) | (with_reducible apply Keeps.alloc))) (fun _ _ _ h => h)) 1 (winC x) (by simp [Act.eval, Act.put]) (src_blk (cs := #[.int .i64 x.k, .int .i64 x.a, .int .i64 x.b, .int .i64 x.f, .int .i64 x.u, .int .i64 x.r]) (T := 54) (by (repeat (first | (with_reducible apply blk_drewN) | (with_reducible apply blk_drew) | (with_reducible refine blk_new' _ _ _ _ ?_) | (with_reducible apply blk_alloc))); (first | (with_reducible rfl) | (simp; done) | (simp; omega))) 1 6 rfl (by decide)) (by intro u hu; simp [winC] at hu; rcases hu with rfl | rfl | rfl | rfl | rfl | rfl <;> rfl) (by simp [maxLen]; omega) (by omega) ?_; intro a7 c7 w7 hown7 hk7; have K7 : Hd (Keeps (fun b => wq.heap.size ≤ b) wq w7) := hid ((K6.out.mono (fun _ _ h => h.elim)).trans (Keeps.trans (S := fun b => wq.heap.size ≤ b) (by repeat (first | (with_reducible exact L6.out) | (with_reducible exact Keeps.refl _ _) | (with_reducible apply Keeps.drewN) | (with_reducible apply Keeps.drew) | (with_reducible apply Keeps.alloc))) hk7)); have K8 : Hd (Keeps (fun _ => False) wq w7) := hid (K7.out.mono (fun i hi h => by omega)); clear hk7)
            | (refine step_append_own_row rfl (.tmp 61) (.tmp 63) 24 rfl 54 i0 zz 6 48 Try.underlying24 hi hz0 hz1 hz2 hz3 (by decide) (fun b => wq.heap.size ≤ b) (fun _ => True) (.slice a6 n c6) (.slice (some ⟨wq.heap.size, 0, none⟩) 1 1) n (winX ws) (by simp [Act.eval, Act.put]) (HO6.out.keep (S := fun _ => False) (by repeat (first | (with_reducible exact L6.out) | (with_reducible exact Keeps.refl _ _) | (with_reducible apply Keeps.drewN) | (with_reducible apply Keeps.drew) | (with_reducible apply Keeps.alloc))) (fun _ _ _ h => h)) 1 (winC x) (by simp [Act.eval, Act.put]) (src_blk HLT.out 1 6 rfl (by decide)) (by intro u hu; simp [winC] at hu; rcases hu with rfl | rfl | rfl | rfl | rfl | rfl <;> rfl) (by simp [maxLen]; omega) (by omega) ?_; intro a7 c7 w7 hown7 hk7; have K7 : Hd (Keeps (fun b => wq.heap.size ≤ b) wq w7) := hid ((K6.out.mono (fun _ _ h => h.elim)).trans (Keeps.trans (S := fun b => wq.heap.size ≤ b) (by repeat (first | (with_reducible exact L6.out) | (with_reducible exact Keeps.refl _ _) | (with_reducible apply Keeps.drewN) | (with_reducible apply Keeps.drew) | (with_reducible apply Keeps.alloc))) hk7)); have K8 : Hd (Keeps (fun _ => False) wq w7) := hid (K7.out.mono (fun i hi h => by omega)); clear hk7)
            | (refine step_append_own_row rfl (.tmp 61) (.tmp 63) 24 rfl 54 i0 zz 6 48 Try.underlying24 hi hz0 hz1 hz2 hz3 (by decide) (fun b => wq.heap.size ≤ b) (fun _ => True) (.slice a6 n c6) (.slice (some ⟨(wq.heap.size + 1), 0, none⟩) 1 1) n (winX ws) (by simp [Act.eval, Act.put]) (HO6.out.keep (S := fun _ => False) (by repeat (first | (with_reducible exact L6.out) | (with_reducible exact Keeps.refl _ _) | (with_reducible apply Keeps.drewN) | (with_reducible apply Keeps.drew) | (with_reducible apply Keeps.alloc))) (fun _ _ _ h => h)) 1 (winC x) (by simp [Act.eval, Act.put]) (src_blk HLT.out 1 6 rfl (by decide)) (by intro u hu; simp [winC] at hu; rcases hu with rfl | rfl | rfl | rfl | rfl | rfl <;> rfl) (by simp [maxLen]; omega) (by omega) ?_; intro a7 c7 w7 hown7 hk7; have K7 : Hd (Keeps (fun b => wq.heap.size ≤ b) wq w7) := hid ((K6.out.mono (fun _ _ h => h.elim)).trans (Keeps.trans (S := fun b => wq.heap.size ≤ b) (by repeat (first | (with_reducible exact L6.out) | (with_reducible exact Keeps.refl _ _) | (with_reducible apply Keeps.drewN) | (with_reducible apply Keeps.drew) | (with_reducible apply Keeps.alloc))) hk7)); have K8 : Hd (Keeps (fun _ => False) wq w7) := hid (K7.out.mono (fun i hi h => by omega)); clear hk7))
          all_goals
            try simp only [List.getElem_toArray, List.getElem_cons_succ, List.getElem_cons_zero, List.setIfInBounds_toArray, List.set_cons_zero, List.set_cons_succ]
            have z6 := K6.out.size
            have HR : Hd (Row (fun b => wq.heap.size ≤ b) w7 6 (.slice a7 (n + 1) c7) (n + 1) (winX (ws ++ [x]))) := hid (by
              have e : winX (ws ++ [x]) = winX ws ++ winC x := by simp [winX]
              rw [e]
              exact hown7.row.mono (fun b _ h => by rcases h with h | h <;> (try simp at h) <;> omega))
            clear hown7
            go_wp2_with fail
            go_meet
            exact ⟨a7, c7, rfl, HR.out, K8.out⟩
        case rest =>
          obtain ⟨a7, c7, rfl, hrow, hk7⟩ := hcut
          generalize wc = w8 at *
          have HR := hid hrow; have K8 := hid hk7
          have HX1 : Hd ((ws ++ [x]).length = n + 1) := hid (by rw [List.length_append, HLN.out]; rfl)
          clear hrow hk7
          go_wp2_with fail
          refine (Check_any _ _ (ws ++ [x]) _ (wins_of (by rw [HX1.out]; exact HR.out)) (by rw [HX1.out]; omega)).mono ?_
          rintro e w9 ⟨er, rfl, hk9⟩
          have K9 := hid (K8.out.trans hk9)
          have HR9 := hid (HR.out.keep hk9 (fun _ _ _ h => h))
          have z9 := K9.out.size
          have HO9 := hid (HROW.out.keep K9.out (fun _ _ _ h => h))
          have KW9 := hid (KQ.out.trans K9.out)
          have HS9 : Hd (SrtW (ws ++ [x])) := hid (srtW_app HSRT.out (fun y hy => by have := HFA.out y hy; rw [HXF.out]; omega))
          have HF9 : Hd (∀ y ∈ ws ++ [x], y.f ≤ F) := hid (fun y hy => by
            rcases List.mem_append.1 hy with h | h
            · have := HFA.out y h; omega
            · simp at h; subst h; rw [HXF.out]; omega)
          have HF8 : Hd (∀ y ∈ ws, y.f ≤ F) := hid (fun y hy => by have := HFA.out y hy; omega)
          clear hk9
          by_cases h0 : er = 0
          · have d0 : (er == 0) = true := by simp; exact h0
            clear h0
            go_wp2
            go_roundw
            case rel => exact ⟨k + 1, F, a7, n + 1, c7, ws ++ [x], rfl, rfl, by go_num, by omega, by omega, by omega, by omega, by omega, HX1, HS9, HF9, hid (HR9.out.mono (fun b _ h => by omega)), KW9⟩
            case measure => simp [intOf]; omega
          · have d0 : (er == 0) = false := by simp; exact h0
            clear h0
            go_wp2
            go_roundw
            case rel => exact ⟨k + 1, F, a, n, c, ws, rfl, rfl, by go_num, by omega, by omega, by omega, by omega, by omega, HLN, HSRT, HF8, HO9, KW9⟩
            case measure => simp [intOf]; omega
    · have HR : Hd (TabPost w (.returned (.slice a n c)) wr) := hid ⟨a, n, c, ws, rfl, HLN.out.symm, by rw [HLN.out]; omega, wins_of (by rw [HLN.out]; exact HW.out), HSRT.out, KR.out⟩
      rcases Nat.lt_or_ge k m with h1 | h1
      · obtain rfl : k = 8 := by omega
        have k1 : ((8 : Nat) : Int) < m := by omega
        have k2 : (8 : Int) < m := by omega
        clear hkm
        go_wp2
        go_ret
        exact HR.out
      · obtain rfl : k = m := by omega
        have k1 : ¬ ((k : Int) < k) := by omega
        clear hkm
        go_wp2
        go_ret
        exact HR.out
end Go.Proofs.Ytjapmpolagblaaa
