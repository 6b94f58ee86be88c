/- File: Gaps. -/
import Derived.Test.YtgeicbjlichdgaaDoorFileI
namespace Go.Proofs.YtgeicbjlichdgaaDoor
open Go.RowKit Go.Shelf
attribute [local go_sem] Oper.semAt_some
def gapsM (M : Pm) : List (Int × Int) := if M.kn then gapsL M.hv else [(0, 65536)]
theorem missing_in (p : Nat) (n : Nat) (w : World) :
    CallsIn Fence.wide n Tryd.prog 44 #[.pointer (some ⟨p, 0, none⟩)] w fun e w' => e = .returned (.func (.func 61) #[] #[.pointer (some ⟨w.heap.size, 0, none⟩)]) ∧ w' = w.alloc (.cells #[.pointer (some ⟨p, 0, none⟩)] 37) := by
  refine callsIn_of_wp Tryd.func44 rfl trivial ?_ rfl
  simp only [Tryd.ntmps44, List.size_toArray, List.length_cons, List.length_nil, Nat.reduceAdd, Nat.reduceSub, Array.replicate_succ, Array.replicate_zero, List.push_toArray, List.append_toArray, List.nil_append, List.cons_append]
  gi_wp2
  go_ret
  exact ⟨rfl, rfl⟩
theorem missing_stops (n : Nat) (B0 p : Nat) (hv : List Bool) (ah : Option Addr) (ch : Nat) (w : World) (hBt : w.cell? ⟨B0, 0, none⟩ = some (.pointer (some ⟨p, 0, none⟩))) (hp3 : w.cell? ⟨p, 3, none⟩ = some (.slice ah hv.length ch)) (hrow : Row (fun _ => True) w 1 (.slice ah hv.length ch) hv.length (bls hv)) (hm : hv.length ≤ 65536) :
    SeqStopsK Fence.wide n Tryd.prog 61 #[.pointer (some ⟨B0, 0, none⟩)] (fun x : Int × Int => #[.agg #[.int .i64 x.1, .int .i64 x.2]]) BoolK (fun ys => ys = gapsL hv) (fun pre => ∃ k, k ≤ hv.length + 1 ∧ pre = (gst (hv ++ [true]) k).2) (hv.length + 2) w := fun l J Jx W hW hJ _ hY h0 =>
  missing1_in n l B0 p hv ah ch J Jx hY W hJ ((hW.cell (p := ⟨B0, 0, none⟩) (cell_lt hBt)).trans hBt) ((hW.cell (p := ⟨p, 3, none⟩) (cell_lt hp3)).trans hp3) (hrow.keep (Keeps.of_below hW) (fun b hb _ h => by omega)) hm h0
theorem grown_keeps {W W' : World} {row : Option Nat} (h : W.grownBy W' row) : Keeps (fun b => row = some b) W W' := ⟨h.os, h.tape, h.output, h.size, fun k hk hs => h.block k hk (fun e => hs e.symm)⟩
theorem own_cells {S : Nat → Prop} {w : World} {e : TypeId} {size : Nat} {v : Value} {n : Nat} {xs : List Value} (h : Own S w e size v n xs) {b : Nat} (hb : v.ownBlock = some b) : ∃ cs, Blk w b cs e := by
  rcases h.1.2 with ⟨h1, _⟩ | ⟨g, cap, cur, h1, _, h3, _⟩
  · rw [h1] at hb; simp [Value.ownBlock] at hb
  · rw [h1] at hb; injection hb with hb; subst hb; exact ⟨cur, h3⟩
theorem own_base {S : Nat → Prop} {w : World} {e : TypeId} {size B : Nat} {v : Value} {n : Nat} {xs : List Value} (h : Own S w e size v n xs) (hb : ∀ b, v.ownBlock = some b → B ≤ b) : w.ownsRow B e size v n xs := by
  refine ⟨h.1.1, ?_⟩
  rcases h.1.2 with h1 | ⟨g, cap, cur, h1, _, h3⟩
  · exact .inl h1
  · exact .inr ⟨g, cap, cur, h1, hb g (by rw [h1]; rfl), h3⟩
theorem base_own {w : World} {e : TypeId} {size B : Nat} {v : Value} {n : Nat} {xs : List Value} (h : w.ownsRow B e size v n xs) : Own (fun b => v.ownBlock = some b) w e size v n xs ∧ ∀ b, v.ownBlock = some b → B ≤ b := by
  refine ⟨⟨⟨h.1, ?_⟩, fun _ h => h⟩, fun b hb => ?_⟩
  · rcases h.2 with h1 | ⟨g, cap, cur, h1, _, h3⟩
    · exact .inl h1
    · exact .inr ⟨g, cap, cur, h1, Nat.zero_le _, h3⟩
  · rcases h.2 with ⟨h1, _⟩ | ⟨g, cap, cur, h1, h2, _⟩
    · rw [h1] at hb; simp [Value.ownBlock] at hb
    · rw [h1] at hb; injection hb with hb; subst hb; exact h2
theorem keepsOthers_of {S : Nat → Prop} {W W' : World} (hk : Keeps S W W') (h : ∀ b, b < W.heap.size → S b → ∃ cs T, Blk W b cs T) : KeepsOthers W W' :=
  ⟨hk.size, fun k o h1 h2 => (hk.block k (Array.getElem?_eq_some_iff.1 h1).1 (fun hs => by
    obtain ⟨cs, T, hb⟩ := h k (Array.getElem?_eq_some_iff.1 h1).1 hs
    rw [show W.heap[k]? = _ from hb] at h1; cases h1; cases h2)).trans h1⟩
theorem boolK_of' {S : Nat → Prop} {W W' : World} (hk : Keeps S W W') (h : ∀ b, b < W.heap.size → S b → ∃ cs T, Blk W b cs T ∧ T ≠ 4) : BoolK W W' :=
  boolK_of hk (fun b cs hb hs => by
    obtain ⟨cs', T, h1, h2⟩ := h b (blk_lt hb) hs
    have h1' : W.heap[b]? = some (.cells cs' T (0, 0)) := h1
    rw [show W.heap[b]? = _ from hb] at h1'; cases h1'; exact h2 rfl)
theorem blk_own {β : Type} (B : Nat) (t : TypeId) (f : β → Array Value) : Go.Own (fun s W => Blk W B (f s) t) := fun s X Y row hs hg hrow => by
  refine (hg.block B (blk_lt hs) (fun e' => ?_)).trans hs
  obtain ⟨o, ho, hc⟩ := hrow B e'.symm
  rw [show X.heap[B]? = _ from hs] at ho; cases ho; cases hc
/-- the list of gaps, as far as it has come -/
def GapI (w W0 : World) (pre : List (Int × Int)) (W : World) : Prop := ∃ a c, Blk W w.heap.size #[.slice a pre.length c] 32 ∧ Own (fun b => (Value.slice a pre.length c).ownBlock = some b) W 52 2 (.slice a pre.length c) pre.length (gpX pre) ∧ (∀ b, (Value.slice a pre.length c).ownBlock = some b → W0.heap.size ≤ b) ∧ Below w.heap.size w W ∧ W0.heap.size ≤ W.heap.size
theorem gapI_from (w W0 : World) (hw : w.heap.size ≤ W0.heap.size) : OwnFrom W0.heap.size (GapI w W0) := fun pre W W' row ⟨a, c, h1, h2, h3, h4, h5⟩ hg hr => by
  have hk := grown_keeps hg
  have hne : ∀ b cs T, Blk W b cs T → row ≠ some b := fun b cs T hb e => by
    obtain ⟨_, o, ho, hc⟩ := hr b e
    rw [show W.heap[b]? = _ from hb] at ho; cases ho; cases hc
  refine ⟨a, c, blk_keep h1 hk (hne _ _ _ h1), h2.keep hk (fun b _ hb => ?_), h3, h4.trans (hk.below (by omega) (fun k hk' e => by have := (hr k e).1; omega)), Nat.le_trans h5 hk.size⟩
  obtain ⟨cs, hc⟩ := own_cells h2 hb
  exact hne _ _ _ hc
theorem gp_parts : ∃ i z, Tryd.prog.info? 52 = some i ∧ i.zero = some z ∧ i.size = 2 ∧ i.bytes = 16 ∧ z.cells.size = 2 := by
  have h1 : (Tryd.prog.info? 52).map (fun i => (i.size, i.bytes)) = some (2, 16) := by kernel_rfl
  have h2 : ((Tryd.prog.info? 52).bind (·.zero)).map (fun z => z.cells) = some #[.int .i64 0, .int .i64 0] := by kernel_rfl
  obtain ⟨i, hi, h1⟩ := Option.map_eq_some_iff.1 h1
  rw [hi] at h2
  obtain ⟨z, hz, h3⟩ := Option.map_eq_some_iff.1 h2
  simp only [Prod.mk.injEq] at h1
  exact ⟨i, z, hi, hz, h1.1, h1.2, by rw [h3]; rfl⟩
def GapPost (w : World) (l : List (Int × Int)) (e : Ending) (w' : World) : Prop := ∃ a n c, e = .returned (.slice a n c) ∧ n = l.length ∧ Own (fun b => w.heap.size ≤ b) w' 52 2 (.slice a n c) n (gpX l) ∧ Below w.heap.size w w'
set_option maxRecDepth 100000 in set_option maxHeartbeats 1000000 in
theorem Gaps_in (Z : Nat → Prop) (p : Nat) (M : Pm) (w : World) (hP : PartR Z w p M) (hM : M.ok) :
    CallsIn Fence.wide 3 Tryd.prog 27 #[.pointer (some ⟨p, 0, none⟩)] w fun e w' => GapPost w (gapsM M) e w' := by
  obtain ⟨ah, ch, ad, cd, b1, zp, o1, o2⟩ := hP
  have p1 : w.cell? ⟨p, 1, none⟩ = some (.bool M.kn) := blk_cell b1 1
  have HB := hid b1; have HR := hid o1.row
  have HGM : Hd (gapsM M = if M.kn then gapsL M.hv else [(0, 65536)]) := hid rfl
  have hm : M.hv.length ≤ 65536 := by rw [hM.len]; exact hM.max
  clear b1 o1 o2
  have hpw := blk_lt HB.out
  refine callsIn_of_wp_marks Tryd.func27 rfl trivial ?_ rfl
  simp only [Tryd.ntmps27, List.size_toArray, List.length_cons, List.length_nil, Nat.reduceAdd, Nat.reduceSub, Array.replicate_succ, Array.replicate_zero, List.push_toArray, List.append_toArray, List.nil_append, List.cons_append]
  have kcases : M.kn = true ∨ M.kn = false := by cases M.kn <;> simp
  rcases kcases with hk | hk
  · rw [hk] at p1
    have HG : Hd (gapsM M = gapsL M.hv) := hid (by rw [HGM.out, hk]; rfl)
    clear hk
    gi_wp2_with fail
    refine ⟨trivial, ?_⟩
    refine (missing_in _ _ _).mono ?_
    rintro e w' ⟨rfl, rfl⟩
    gi_wp2
    obtain ⟨W0, hW0⟩ : ∃ W0, ((w.alloc (.cells #[.slice none 0 0] 32)).alloc (.cells #[.pointer (some ⟨p, 0, none⟩)] 37)) = W0 := ⟨_, rfl⟩
    have b0 : Blk W0 w.heap.size #[.slice none 0 0] 32 := by rw [← hW0]; exact blk_alloc (blk_new _ _ _) _
    have b1 : Blk W0 (w.heap.size + 1) #[.pointer (some ⟨p, 0, none⟩)] 37 := by rw [← hW0]; exact blk_new' _ _ _ _ (by simp)
    have k0 : Keeps (fun _ => False) w W0 := by rw [← hW0]; exact (keeps_alloc _ _ _).alloc _
    have hB0 : Below w.heap.size w W0 := k0.below (Nat.le_refl _) (fun _ _ h => h)
    have hs0 := k0.size
    have hs2 := blk_lt b1
    have HI0 : GapI w W0 [] W0 := ⟨none, 0, b0, Own.nil _ _ _ _, fun b h => by simp [Value.ownBlock] at h, hB0, Nat.le_refl _⟩
    rw [hW0]
    refine wpIn_rangeFunc_ownH rfl (by omega) (gf := 61) (lb := #[.pointer (some ⟨w.heap.size + 1, 0, none⟩)]) rfl trivial (enters_of Tryd.func61 (by kernel_rfl) rfl)
      (missing_stops 2 (w.heap.size + 1) p M.hv ah ch W0 (blk_cell b1 0) (blk_cell (blk_keep HB.out k0 (fun h => h)) 3) ((HR.out.keep k0 (fun _ _ _ h => h)).mono (fun _ _ _ => trivial)) hm) boolK_t (fun W l o o' _ h ho _ => boolK_b W l o o' h ho) (Below.refl _ _) (fun _ => rfl)
      (fun pre W => GapI w W0 pre W) (fun _ _ _ => False) (gapI_from w W0 hs0) (fun _ _ _ _ _ h _ _ => h) HI0
      (fun x a' W => ∃ Bx, W0.heap.size ≤ Bx ∧ Blk W Bx #[.int .i64 x.1, .int .i64 x.2] 52 ∧ a' = { tmps := #[.pointer (some ⟨p, 0, none⟩), undef, .slice none 0 0, .pointer (some ⟨w.heap.size, 0, none⟩), .pointer (some ⟨Bx, 0, none⟩), .pointer (some ⟨p, 0, none⟩), .pointer (some ⟨p, 0, none⟩), .pointer (some ⟨p, 1, none⟩), .bool true, .bool false, undef, undef, .pointer (some ⟨p, 0, none⟩), .func (.func 61) #[] #[.pointer (some ⟨w.heap.size + 1, 0, none⟩)], .agg #[.int .i64 x.1, .int .i64 x.2], undef, undef, undef, undef, undef], defers := [] })
      (fun x a' _ X Y row hs hg hr => by obtain ⟨Bx, h1, h2, h3⟩ := hs; exact ⟨Bx, h1, blk_own Bx _ (fun (_ : Unit) => _) () X Y row h2 hg (fun r e => (hr r e).2), h3⟩)
      ?assign ?body ?done ?stop
    case assign =>
      rintro l pre x W K ⟨a, c, h1, h2, h3, h4, h5⟩ hK
      gi_wp2
      exact hK _ _ ((KeepsOthers.alloc _ _).from _) (boolK_of (keeps_alloc (fun _ => False) _ _) (fun _ _ _ h => h)) ⟨a, c, blk_alloc h1 _, h2.keep (keeps_alloc (fun _ => False) _ _) (fun _ _ _ h => h), h3, h4.trans ((Below.refl _ W).alloc h4.size _), by simp; omega⟩ ⟨W.heap.size, h5, blk_new W _ _, rfl⟩
    case body =>
      rintro l pre x a' W hl ⟨r, hr⟩ ⟨a, c, h1, h2, h3, h4, h5⟩ ⟨Bx, hBx, bX, rfl⟩ hlt
      obtain ⟨i0, zz, hi, hz0, hz1, hz2, hz3⟩ := gp_parts
      have o0 : W.cell? ⟨w.heap.size, 0, none⟩ = some (.slice a pre.length c) := blk_cell h1 0
      have x0 : W.cell? ⟨Bx, 0, none⟩ = some (.int .i64 x.1) := blk_cell bX 0
      have x1 : W.cell? ⟨Bx, 1, none⟩ = some (.int .i64 x.2) := blk_cell bX 1
      have H1 := hid h1; have H2 := hid h2; have H3 := hid h3; have H4 := hid h4
      have hpl : pre.length < M.hv.length + 2 := hlt
      clear h1 h2 h3 h4 bX
      gi_wp2_with (gi_at_builtin; refine wpListIn_append_own _ rfl _ _ 32 rfl W0.heap.size 52 i0 zz 2 16 Tryd.underlying32 hi hz0 hz1 hz2 hz3 (by decide) _ _ _ rfl (own_base (H2.out.alloc _) H3.out) ⟨W.heap.size, 0, none⟩ 1 1 [.int .i64 x.1, .int .i64 x.2] rfl rfl (fun j u hu => (row_cells (lit_rowF W #[.int .i64 x.1, .int .i64 x.2] 52 1 2 rfl (by decide)) j u hu)) (by intro u hu; simp at hu; rcases hu with rfl | rfl <;> rfl) (by unfold maxLen; omega) (by omega) (by simp; omega) ?_)
      intro v' w3 hown hg _
      have KA := keeps_alloc (fun _ => False) W (.cells #[.int .i64 x.1, .int .i64 x.2] 52)
      have KS : Hd (Keeps (fun b => (Value.slice a pre.length c).ownBlock = some b) W w3) := hid ((KA.mono (fun _ _ h => h.elim)).trans (grown_keeps hg))
      have HO : Own (fun b => v'.ownBlock = some b) w3 52 2 v' (pre.length + 1) (gpX (pre ++ [x])) := by rw [gpX_app]; exact (base_own hown).1
      obtain ⟨a3, c3, rfl, _⟩ := HO.row.form
      have HOH := hid HO
      have HNB : Hd (∀ b, (Value.slice a3 (pre.length + 1) c3).ownBlock = some b → W0.heap.size ≤ b) := hid (base_own hown).2
      have hwl : ∀ b, (Value.slice a pre.length c).ownBlock = some b → b ≠ w.heap.size := fun b hb e => by have := H3.out b hb; omega
      have H13 := hid (blk_keep H1.out KS.out (fun hb => hwl _ hb rfl))
      have y0 : w3.cell? ⟨w.heap.size, 0, none⟩ = some (.slice a pre.length c) := blk_cell H13.out 0
      have y1 : w3.frozen? ⟨w.heap.size, 0, none⟩ = false := blk_free H13.out 0
      clear hown hg HO
      gi_wp2
      have KT : Keeps (fun b => b = w.heap.size ∨ (Value.slice a pre.length c).ownBlock = some b) W (w3.setCell ⟨w.heap.size, 0, none⟩ (.slice a3 (pre.length + 1) c3)) := (KS.out.mono (fun _ _ h => .inr h)).setCell (.inl (.inl rfl)) _
      have hty : ∀ b, b < W.heap.size → (b = w.heap.size ∨ (Value.slice a pre.length c).ownBlock = some b) → ∃ cs T, Blk W b cs T ∧ T ≠ 4 := fun b _ hb => by
        rcases hb with rfl | hb
        · exact ⟨_, _, H1.out, by decide⟩
        · obtain ⟨cs, hcs⟩ := own_cells H2.out hb; exact ⟨cs, _, hcs, by decide⟩
      refine ⟨(keepsOthers_of KT (fun b h1 h2 => by obtain ⟨cs, T, h3, _⟩ := hty b h1 h2; exact ⟨cs, T, h3⟩)).from _, boolK_of' KT hty, a3, c3, ?_, ?_, ?_, ?_, ?_⟩
      · rw [List.length_append]; exact blk_set H13.out 0 _
      · rw [List.length_append]; exact HOH.out.keep (keeps_set (fun b => b = w.heap.size) _ _ _ rfl) (fun b _ h1 h2 => by have := HNB.out b h1; omega)
      · rw [List.length_append]; exact HNB.out
      · exact H4.out.trans (KT.below H4.out.size (fun k hk h => by rcases h with h | h; omega; have := H3.out k h; omega))
      · exact Nat.le_trans h5 KT.size
    case done =>
      rintro D xs W hD rfl ⟨a, c, h1, h2, h3, h4, h5⟩ hK
      have o0 : W.cell? ⟨w.heap.size, 0, none⟩ = some (.slice a (gapsL M.hv).length c) := blk_cell h1 0
      gi_wp2
      refine ⟨by simp, .inl ⟨_, _, rfl, run_takeDeferred hK, ?_⟩⟩
      refine ⟨.slice a (gapsL M.hv).length c, by simp [results, Tryd.f27, go_sem], ?_⟩
      rw [HG.out]
      refine ⟨a, _, c, rfl, rfl, (h2.keep (grown_keeps (grownBy_putObj' W D (.deferred none))) (fun b _ hb e => ?_)).mono (fun b _ h => Nat.le_trans hs0 (h3 b h)), h4.trans (belowK_b (w := w) (Nat.le_refl _) W D _ _ (by omega) hK rfl rfl)⟩
      obtain ⟨cs, hc⟩ := own_cells h2 hb
      injection e with e; subst e
      rw [show W.heap[D]? = _ from hc] at hK; cases hK
    case stop => rintro D c pre W hD _ h hK; exact h.elim
  · rw [hk] at p1
    have HG : Hd (gapsM M = [(0, 65536)]) := hid (by rw [HGM.out, hk]; rfl)
    clear hk
    gi_wp2
    refine ⟨.slice (some ⟨w.heap.size, 0, none⟩) 1 1, by simp [results, Tryd.f27, go_sem], ?_⟩
    rw [HG.out]
    exact ⟨_, 1, 1, rfl, rfl, ⟨World.ownsRow_lit (base := 0) (e := 52) w #[.int .i64 0, .int .i64 65536] 1 (Nat.zero_le _) (by decide) rfl, fun b hb => by injection hb with hb; simp at hb; omega⟩, (Below.refl _ w).alloc (Nat.le_refl _) _⟩
theorem Gaps_any (Z : Nat → Prop) (p : Nat) (M : Pm) (w : World) (hP : PartR Z w p M) (hM : M.ok) :
    Calls Tryd.prog 27 #[.pointer (some ⟨p, 0, none⟩)] w fun e w' => ∃ a c, e = .returned (.slice a (gapsM M).length c) ∧ Own (fun b => w.heap.size ≤ b) w' 52 2 (.slice a (gapsM M).length c) (gapsM M).length (gpX (gapsM M)) ∧ Keeps (fun _ => False) w w' := by
  refine ((callsIn_wide (n := 3)).1 (Gaps_in Z p M w hP hM)).mono ?_
  rintro e w' ⟨a, n, c, h1, rfl, h2, h3⟩
  exact ⟨a, c, h1, h2, (Keeps.of_below h3).mono (fun b hb h => by omega)⟩
end Go.Proofs.YtgeicbjlichdgaaDoor
