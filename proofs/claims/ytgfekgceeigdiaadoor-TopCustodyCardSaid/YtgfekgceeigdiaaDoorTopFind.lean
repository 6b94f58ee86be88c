/- Custody: TopF, TopG, TopH: walks and plain facts. -/
import Derived.Test.YtgfekgceeigdiaaDoorTopE
import Derived.Lib.SliceRun
import Derived.Deep.RegionLaw
import Derived.Shelf.RegionOpenPlain
import Derived.Lib.Walk
namespace Go.Proofs.YtgfekgceeigdiaaDoor
open Go.RowKit Go.Shelf
attribute [local go_sem ↓] Go.wp_at_zero Go.wp_at_succ
def zB8 : List Value := [.int .i64 0, .int .i64 0, .int .i64 0, .int .i64 0, .int .i64 0, .int .i64 0, .int .u32 0, .slice none 0 0]
theorem run_clear_one {P : Program} (w : World) (t e ty : TypeId) (z : Value) (ht : P.underlying t = some (.slice e)) (hv : ∀ w, (zeroValue e).run P w = .ok z w) (Z : List Value) (hz : (Builtin.zeroCells z.cells 1).toList = Z) (h1 : ∀ v ∈ Z, v.oneCell' = true) (b o k c : Nat) (hk : k = 1)
    (hc : ∀ j, j < Z.length → (w.cell? ⟨b, o + j, none⟩).isSome = true) (hf : ∀ j, j < Z.length → w.frozen? ⟨b, o + j, none⟩ = false) :
    (Builtin.clear_ #[t] ty #[.slice (some ⟨b, o, none⟩) k c]).run P w = .ok (.tuple #[]) (w.setCells b o Z) := by
  subst hk
  have hst := run_storeCells_cells (P := P) b o Z 0 w (by simpa using hc) (by simpa using hf) h1
  simp only [Nat.add_zero] at hst
  simp [Builtin.clear_, run_underlying ht, hv, hz, hst]
set_option maxHeartbeats 4000000 in
set_option maxRecDepth 1000000 in
theorem DeleteB_raw (blk off cap n i j : Nat) (xs : List Value) (w : World) (hl : xs.length = n * 8) (h1 : ∀ u ∈ xs, u.oneCell' = true) (hc : ∀ k u, xs[k]? = some u → w.cell? ⟨blk, off + k, none⟩ = some u) (hf : ∀ k, w.frozen? ⟨blk, off + k, none⟩ = false) (hij : j = i + 1) (hj : j ≤ n) (hcap : n ≤ cap) (hm : cap ≤ 9223372036854775807) :
    Calls Tryd.prog 70 #[.slice (some ⟨blk, off, none⟩) n cap, .int .i64 i, .int .i64 j] w fun e w' => e = .returned (.slice (some ⟨blk, off, none⟩) (i + (n - j)) cap) ∧ w' = (w.drew.setCells blk (off + i * 8) (xs.drop (j * 8))).setCells blk (off + (i + (n - j)) * 8) zB8 := by
  have iz : ∃ i0, Tryd.prog.info? 59 = some i0 ∧ i0.size = 8 := by
    obtain ⟨i0, z0, e1, e2, e3, e4, e5⟩ := bu_parts
    exact ⟨i0, e1, e3⟩
  obtain ⟨i0, hi0, hz1⟩ := iz
  obtain ⟨news, hnews⟩ : ∃ news, news = xs.drop (j * 8) := ⟨_, rfl⟩
  have hlen : news.length = (n - j) * 8 := by rw [hnews, List.length_drop, hl]; omega
  have hcs : ∀ k, k < n * 8 → (w.cell? ⟨blk, off + k, none⟩).isSome = true := fun k hk => by rw [hc k _ (List.getElem?_eq_getElem (by omega))]; rfl
  obtain ⟨A, hA, hsrc⟩ : ∃ A : Addr, (if cap = j then some (⟨blk, off, none⟩ : Addr) else some ⟨blk, off + j * 8, none⟩) = some A ∧ Hd (∀ t u, news[t]? = some u → w.drew.cell? (A.add t) = some u) := by
    by_cases h : cap = j
    · refine ⟨⟨blk, off, none⟩, by simp [h], hid (fun t u hu => ?_)⟩
      have h0 : news.length = 0 := by rw [hlen]; omega
      rw [List.length_eq_zero_iff.1 h0] at hu
      simp at hu
    · refine ⟨⟨blk, off + j * 8, none⟩, by simp [h], hid (fun t u hu => ?_)⟩
      rw [hnews, List.getElem?_drop] at hu
      rw [Addr.add_lit, Nat.add_assoc]
      exact hc _ _ hu
  have s1 : Hd (news.length = (n - j) * 8) := hid hlen
  have s2 : Hd (∀ u ∈ news, u.oneCell' = true) := hid (fun u hu => by rw [hnews] at hu; exact h1 u (List.mem_of_mem_drop hu))
  have s3 : Hd (∀ t, t < news.length → (w.drew.cell? ⟨blk, off + i * 8 + t, none⟩).isSome = true ∧ w.drew.frozen? ⟨blk, off + i * 8 + t, none⟩ = false) := hid (fun t ht => by
    rw [hlen] at ht
    rw [Nat.add_assoc]
    exact ⟨hcs _ (by omega), hf _⟩)
  obtain ⟨W1, hW1⟩ : ∃ W1, W1 = w.drew.setCells blk (off + i * 8) news := ⟨_, rfl⟩
  have hcl : ∀ ty, (Builtin.clear_ #[41] ty #[.slice (some ⟨blk, off + (i + (n - j)) * 8, none⟩) (n - (i + (n - j))) (cap - (i + (n - j)))]).run Tryd.prog W1 = .ok (.tuple #[]) (W1.setCells blk (off + (i + (n - j)) * 8) zB8) :=
    fun ty => run_clear_one W1 _ _ ty _ Tryd.underlying41 Tryd.zeroValue59 zB8 (by kernel_rfl) (by intro v hv; simp [zB8] at hv; rcases hv with rfl | rfl | rfl <;> rfl) blk _ _ _ (by omega) (fun t ht => by
      have ht8 : t < 8 := ht
      rw [hW1, Nat.add_assoc]
      exact Go.Proofs.isSome_setCells blk _ _ _ (fun q hq => by rw [hlen] at hq; rw [Nat.add_assoc]; exact hcs _ (by omega)) _ (hcs _ (by omega))) (fun t ht => by rw [hW1, World.frozen?_setCells, Nat.add_assoc]; exact hf _)
  have hW : Hd (W1 = w.drew.setCells blk (off + i * 8) news) := hid hW1
  have HNW := hid hnews
  have hic : i ≤ cap := by omega
  have hjc : j ≤ cap := by omega
  have hne : ¬ ((i : Int) = (j : Int)) := by omega
  have hij2 : i ≤ j := by omega
  clear hW1 hc hf hcs hnews hlen hl h1 hij
  have mixed : Tryd.prog.follows .mixedOrders = true := by kernel_rfl
  go_enter Tryd.func70, Tryd.ntmps70
  go_wp2_with fail
  go_region_law_o (refine step_append_room rfl (.tmp 22) (.tmp 25) 41 rfl 59 i0 8 Tryd.underlying41 hi0 hz1 blk off i cap (by simp [Act.eval, Act.put]) A (n - j) (cap - j) news (by simp [Act.eval, Act.put]) s1.out hsrc.out s2.out (by omega) s3.out ?_; rw [← hW.out])
  go_wp2
  go_ret
  exact ⟨rfl, by rw [hW.out, HNW.out]⟩
theorem buc_erase {K : Nat → Prop} {w : World} {xs : List Value} {l : List Bu} {i : Nat} (h : BuC K w xs l) (hi : i < l.length) : BuC K w (xs.take (i * 8) ++ xs.drop ((i + 1) * 8)) (l.eraseIdx i) := by
  have hl := h.1
  refine ⟨by rw [List.length_append, List.length_take, List.length_drop, List.length_eraseIdx, if_pos hi, hl]; omega, fun t x ht => ?_⟩
  rw [List.getElem?_eraseIdx] at ht
  have h1 : (xs.take (i * 8)).length = i * 8 := by rw [List.length_take]; omega
  split at ht
  · rename_i hlt
    refine (h.2 t x ht).congr (fun j hj => ?_)
    unfold List.getD
    rw [List.getElem?_append_left (by omega), List.getElem?_take, if_pos (by omega)]
  · rename_i hge
    refine (h.2 (t + 1) x ht).congr (fun j hj => ?_)
    unfold List.getD
    rw [List.getElem?_append_right (by omega), h1, List.getElem?_drop]
    congr 2; omega
theorem DeleteB_any (K : Nat → Prop) (a : Option Addr) (l : List Bu) (c i : Nat) (w : World) (h : BuQ K w (.slice a l.length c) l) (hi : i < l.length) (hl : l.length ≤ 1000) :
    Calls Tryd.prog 70 #[.slice a l.length c, .int .i64 i, .int .i64 ((i : Int) + 1)] w fun e w' => ∃ a2 c2, e = .returned (.slice a2 (l.length - 1) c2) ∧ Bus K w' (.slice a2 (l.length - 1) c2) (l.eraseIdx i) ∧ Keeps (fun b => (Value.slice a l.length c).ownBlock = some b) w w' := by
  obtain ⟨xs, hO, hX⟩ := h
  rcases own_open hO with ⟨_, h0, _⟩ | ⟨g, cap, cur, e, hS, hB, h3, h4, h5, h6⟩
  · omega
  · injection e with e1 _ e3
    subst e1; subst e3
    have hxl := hX.1
    have hcell : ∀ k u, xs[k]? = some u → w.cell? ⟨g, 0 + k, none⟩ = some u := fun k u hk => by
      have hkl : k < xs.length := (List.getElem?_eq_some_iff.1 hk).1
      rw [Nat.zero_add, blk_cell hB, ← hk, ← h6, List.getElem?_take, if_pos (by omega)]; simp
    have hd := DeleteB_raw g 0 c l.length i (i + 1) xs w hxl hX.ones hcell (fun k => blk_free hB _) rfl (by omega) h3 (by unfold maxLen at h4; omega)
    rw [show ((i + 1 : Nat) : Int) = (i : Int) + 1 by omega, show i + (l.length - (i + 1)) = l.length - 1 by omega] at hd
    refine hd.mono ?_
    rintro e w' ⟨rfl, rfl⟩
    have hk : Keeps (fun b => (Value.slice (some ⟨g, 0, none⟩) l.length c).ownBlock = some b) w ((w.drew.setCells g (0 + i * 8) (xs.drop ((i + 1) * 8))).setCells g (0 + (l.length - 1) * 8) zB8) := keeps_setCells (S := fun b => (Value.slice (some ⟨g, 0, none⟩) l.length c).ownBlock = some b) g rfl _ _ _ _ (keeps_setCells (S := fun b => (Value.slice (some ⟨g, 0, none⟩) l.length c).ownBlock = some b) g rfl _ _ _ _ ((Keeps.refl _ w).drew))
    refine ⟨_, _, rfl, ⟨xs.take (i * 8) ++ xs.drop ((i + 1) * 8), ?_, ?_⟩, hk⟩
    · have hel : (l.eraseIdx i).length = l.length - 1 := by rw [List.length_eraseIdx, if_pos hi]
      have hl1 : (xs.take (i * 8)).length = i * 8 := by rw [List.length_take]; omega
      rw [hel]
      refine ⟨by rw [List.length_append, hl1, List.length_drop]; omega, .inr ⟨_, c, rfl, by omega, h4, fun _ => ⟨g, 0, rfl, hS.2, ?_, fun j hj => ?_⟩⟩⟩
      · rw [size_setCells, size_setCells]; exact blk_lt hB
      · rw [Nat.zero_add, Nat.zero_add, Nat.zero_add]
        have hs1 : ∀ q, q < (xs.drop ((i + 1) * 8)).length → (w.drew.cell? ⟨g, i * 8 + q, none⟩).isSome = true := fun q hq => by
          rw [List.length_drop] at hq
          have := hcell (i * 8 + q) _ (List.getElem?_eq_getElem (by omega))
          rw [Nat.zero_add] at this
          show (w.cell? ⟨g, i * 8 + q, none⟩).isSome = true
          rw [this]; rfl
        rw [World.cell?_setCells_out g zB8 _ _ _ (fun _ _ => .inl (show j < (l.length - 1) * 8 by omega)), set_at hs1]
        by_cases c1 : j < i * 8
        · rw [if_neg (by omega), List.getD, List.getElem?_append_left (by omega), List.getElem?_take, if_pos c1]
          have := hcell j _ (List.getElem?_eq_getElem (by omega))
          rw [Nat.zero_add] at this
          rw [List.getElem?_eq_getElem (by omega)]
          exact this
        · have hjx : j - i * 8 < (xs.drop ((i + 1) * 8)).length := by rw [List.length_drop]; omega
          rw [if_pos (by rw [List.length_drop] at *; omega), List.getD, List.getElem?_append_right (by omega), hl1, List.getElem?_eq_getElem hjx]
          rfl
    · exact ((buc_erase hX hi).keep hk (fun b _ h1 h2 => h1.2 h2)).mono (fun b _ h => h.1)
def FindPost (l : List Bu) (c : Int) (w : World) (r : Ending) (w' : World) : Prop := ((∃ (k : Nat) (x : Bu), r = .returned (.int .i64 k) ∧ l[k]? = some x ∧ x.i = c ∧ ∀ i y, i < k → l[i]? = some y → y.i ≠ c) ∨ (r = .returned (.int .i64 (-1)) ∧ ∀ y ∈ l, y.i ≠ c)) ∧ Keeps (fun _ => False) w w'
set_option maxRecDepth 100000 in set_option maxHeartbeats 1000000 in
theorem find1_any (x : Bu) (af : Option Addr) (nf cf : Nat) (p : Nat) (cn : Int) (w : World) (hp : w.cell? ⟨p, 0, none⟩ = some (.int .i64 cn)) :
    Calls Tryd.prog 76 #[.agg #[.int .i64 x.i, .int .i64 x.f, .int .i64 x.t, .int .i64 x.g, .int .i64 x.o, .int .i64 x.a, .int .u32 (x.s : Int), .slice af nf cf], .pointer (some ⟨p, 0, none⟩)] w fun e w' => e = .returned (.bool (x.i == cn)) ∧ Keeps (fun _ => False) w w' := by
  go_enter Tryd.func76, Tryd.ntmps76
  go_upto_region 1 with fail
  generalize hW : World.alloc w _ = W
  have BX : Hd (Blk W w.heap.size #[.int .i64 x.i, .int .i64 x.f, .int .i64 x.t, .int .i64 x.g, .int .i64 x.o, .int .i64 x.a, .int .u32 (x.s : Int), .slice af nf cf] 59) := hid (by rw [← hW]; exact blk_new _ _ _)
  have KW : Hd (Keeps (fun _ => False) w W) := hid (by rw [← hW]; exact keeps_alloc _ _ _)
  clear hW
  have o0 : W.cell? ⟨w.heap.size, 0, none⟩ = some (.int .i64 x.i) := blk_cell BX.out 0
  have o1 : W.cell? ⟨p, 0, none⟩ = some (.int .i64 cn) := keep_cell KW.out (fun h => h) hp
  clear hp
  go_wp2
  go_ret
  exact ⟨rfl, KW.out⟩
set_option maxRecDepth 100000 in set_option maxHeartbeats 1000000 in
theorem IndexB_any (K : Nat → Prop) (ab : Option Addr) (cb : Nat) (l : List Bu) (p : Nat) (cn : Int) (w : World) (hl : Bus K w (.slice ab l.length cb) l) (hp : w.cell? ⟨p, 0, none⟩ = some (.int .i64 cn)) (hm : l.length ≤ 1000) :
    Calls Tryd.prog 75 #[.slice ab l.length cb, .func (.func 76) #[] #[.pointer (some ⟨p, 0, none⟩)]] w fun e w' => FindPost l cn w e w' := by
  have HB := hid hl; have HP := hid hp
  clear hl hp
  generalize hll : l.length = m at *
  have HLL := hid hll; clear hll
  go_enter Tryd.func75, Tryd.ntmps75
  go_wp2_with fail
  go_loopw [8] (fun i wr => ∃ k : Nat, i = .int .i64 k ∧ k ≤ m ∧ Hd (∀ i y, i < k → l[i]? = some y → y.i ≠ cn) ∧ Hd (Keeps (fun _ => False) w wr)) (fun i _ => m - (intOf i).toNat)
  case atStart => exact ⟨0, rfl, Nat.zero_le _, hid (fun i y hi => by omega), hid (Keeps.refl _ _)⟩
  case round =>
    obtain ⟨k, rfl, hk, HBE, HD⟩ := hrel
    by_cases hkm : k < m
    · obtain ⟨b, off, rfl, hb1, hb2, hcell⟩ := bus_cells HB.out (by rw [HLL.out]; omega)
      obtain ⟨y, hy⟩ : ∃ y, l[k]? = some y := ⟨l[k]'(by rw [HLL.out]; exact hkm), List.getElem?_eq_getElem _⟩
      obtain ⟨e0, e1, e2, e3, e4, e5, e6, ad, cd, e7, -⟩ := hcell k y hy
      have HXK := hid hy
      have f0 := keep_cell HD.out (fun h => h) e0
      have f1 := keep_cell HD.out (fun h => h) e1
      have f2 := keep_cell HD.out (fun h => h) e2
      have f3 := keep_cell HD.out (fun h => h) e3
      have f4 := keep_cell HD.out (fun h => h) e4
      have f5 := keep_cell HD.out (fun h => h) e5
      have f6 := keep_cell HD.out (fun h => h) e6
      have f7 := keep_cell HD.out (fun h => h) e7
      have k1 : (k : Int) < m := by omega
      have k2 : (0 : Int) ≤ k := by omega
      clear e0 e1 e2 e3 e4 e5 e6 e7 hy hcell
      go_wp2_with fail
      refine (find1_any y _ _ _ p cn _ (keep_cell HD.out (fun h => h) HP.out)).mono ?_
      rintro e w2 ⟨rfl, hk2⟩
      have K2 := hid (HD.out.trans hk2)
      clear hk2
      by_cases e1 : y.i = cn
      · have d1 : (y.i == cn) = true := by simp; exact e1
        have HR : Hd (FindPost l cn w (.returned (.int .i64 k)) w2) := hid ⟨.inl ⟨k, y, rfl, HXK.out, e1, HBE.out⟩, K2.out⟩
        clear e1
        go_wp2
        go_ret
        exact HR.out
      · have d1 : (y.i == cn) = false := by simp; exact e1
        have HE1 := hid e1
        clear e1
        go_wp2
        go_roundw
        case rel =>
          refine ⟨k + 1, by go_num, by omega, hid (fun i y' hi hy' => ?_), K2⟩
          rcases Nat.lt_or_ge i k with h | h
          · exact HBE.out i y' h hy'
          · obtain rfl : i = k := by omega
            rw [HXK.out] at hy'; injection hy' with hy'; subst hy'
            exact HE1.out
        case measure => simp [intOf]; omega
    · have hkm2 : k = m := by omega
      have HR : Hd (FindPost l cn w (.returned (.int .i64 (-1))) wr) := hid ⟨.inr ⟨rfl, fun y hy => by obtain ⟨i, hi, rfl⟩ := List.getElem_of_mem hy; exact HBE.out i _ (by rw [HLL.out] at hi; omega) (List.getElem?_eq_getElem hi)⟩, HD.out⟩
      have k0 : ¬ ((k : Int) < m) := by omega
      clear hkm hkm2
      go_wp2
      go_ret
      exact HR.out
set_option maxRecDepth 100000 in set_option maxHeartbeats 1000000 in
theorem find_any (K : Nat → Prop) (l : List Bu) (q : Int) (ab : Option Addr) (cb : Nat) (vp vs : Value) (cn : Int) (w : World) (hl : Bus K w (.slice ab l.length cb) l) (hm : l.length ≤ 1000) :
    Calls Tryd.prog 55 #[.agg #[.int .i64 q, .slice ab l.length cb, vp, vs], .int .i64 cn] w fun e w' => FindPost l cn w e w' := by
  have HL := hid (hl.mono (K' := fun b => b < w.heap.size) (fun b h _ => h))
  clear hl
  obtain ⟨m, hm2⟩ : ∃ m, l.length = m := ⟨_, rfl⟩
  have HM := hid hm2
  rw [hm2] at HL hm ⊢
  clear hm2
  go_enter Tryd.func55, Tryd.ntmps55
  go_upto_region 1 with fail
  generalize hW : World.alloc (World.alloc w _) _ = W1
  have KS : Hd (Keeps (fun _ => False) w W1) := hid (by rw [← hW]; exact (Keeps.alloc (Keeps.alloc (Keeps.refl (fun _ => False) w) _) _))
  have HL' : Hd (Bus (fun b => b < w.heap.size) W1 (.slice ab m cb) l) := hid (HL.out.keep KS.out (fun _ _ _ h => h))
  have BA : Hd (Blk W1 w.heap.size #[(.int .i64 q), (.slice ab m cb), vp, vs] 44) := hid (by rw [← hW]; exact (blk_alloc (blk_new _ _ _) _))
  have BI : Hd (Blk W1 (w.heap.size + 1) #[(.int .i64 cn)] 3) := hid (by rw [← hW]; exact (blk_new' _ _ _ _ (by simp)))
  clear HL
  have HL := HL'
  clear HL'
  have HK : Hd (Keeps (fun _ => False) w W1) := hid KS.out
  have z_W1 : w.heap.size + 2 ≤ W1.heap.size := by rw [← hW]; simp
  clear hW KS
  generalize hb_BI : w.heap.size + 1 = b_BI at *
  have o_BA_1 : W1.cell? ⟨w.heap.size, 1, none⟩ = some ((.slice ab m cb)) := blk_cell BA.out 1
  have hcc : Calls Tryd.prog 75 #[.slice ab m cb, .func (.func 76) #[] #[.pointer (some ⟨b_BI, 0, none⟩)]] W1 fun e w' => FindPost l cn W1 e w' := by have h := IndexB_any _ ab cb l b_BI cn W1 (by rw [HM.out]; exact HL.out) (blk_cell BI.out 0) (by rw [HM.out]; omega); rw [HM.out] at h; exact h
  have HCC := hid hcc
  clear hcc
  go_wp2_with fail
  refine HCC.out.mono ?_
  rintro e w2 hp
  have HKW := HK
  unfold FindPost at hp
  obtain ⟨⟨k, x, rfl, h1, h2, h3⟩ | ⟨rfl, h1⟩, hk⟩ := hp
  clear o_BA_1
  · have HR : Hd (FindPost l cn w (.returned (.int .i64 k)) w2) := hid ⟨.inl ⟨k, x, rfl, h1, h2, h3⟩, HK.out.trans hk⟩
    clear h1 h2 h3 hk
    go_wp2
    go_ret
    exact HR.out
  · have HR : Hd (FindPost l cn w (.returned (.int .i64 (-1))) w2) := hid ⟨.inr ⟨rfl, h1⟩, HK.out.trans hk⟩
    clear h1 hk
    go_wp2
    go_ret
    exact HR.out
end Go.Proofs.YtgfekgceeigdiaaDoor
namespace Go.Proofs.YtgfekgceeigdiaaDoor
open Go.RowKit
attribute [local go_sem ↓] Go.wp_at_zero Go.wp_at_succ
/-- a store in memory that w had not -/
def StO (K : Nat → Prop) (q : Int) (bs : List Bu) (ps sn : List Int) (v : Value) (w' : World) : Prop := ∃ ab cb ap cp aq cq, v = .agg #[.int .i64 q, .slice ab bs.length cb, .slice ap ps.length cp, .slice aq sn.length cq] ∧ Bus K w' (.slice ab bs.length cb) bs ∧ Sl K w' (.slice ap ps.length cp) (i64s ps) ∧ Sl K w' (.slice aq sn.length cq) (i64s sn)
set_option maxRecDepth 100000 in set_option maxHeartbeats 1000000 in
theorem Retry_any (K : Nat → Prop) (q : Int) (bs : List Bu) (ps sn : List Int) (ab ap aq : Option Addr) (cb cp cq : Nat) (w : World) (hb : Bus K w (.slice ab bs.length cb) bs) (hp : Sl K w (.slice ap ps.length cp) (i64s ps)) (hs : Sl K w (.slice aq sn.length cq) (i64s sn))
    (l1 : bs.length ≤ 100) (l2 : ps.length ≤ 1000) (l3 : sn.length ≤ 1000) (hd : ∀ x ∈ bs, x.d.length ≤ 256) :
    Calls Tryd.prog 32 #[.agg #[.int .i64 q, .slice ab bs.length cb, .slice ap ps.length cp, .slice aq sn.length cq]] w fun e w' => ∃ v, e = .returned v ∧ StO (fun b => w.heap.size ≤ b) q bs [] sn v w' ∧ Keeps (fun _ => False) w w' := by
  unfold StO
  have HB := hid (hb.mono (K' := fun b => b < w.heap.size) (fun b h _ => h)); have HP := hid (hp.mono (K' := fun b => b < w.heap.size) (fun b h _ => h)); have HS := hid (hs.mono (K' := fun b => b < w.heap.size) (fun b h _ => h)); have HD := hid hd
  clear hb hp hs hd
  obtain ⟨n, hn⟩ : ∃ n, bs.length = n := ⟨_, rfl⟩
  obtain ⟨np, hnp⟩ : ∃ n, ps.length = n := ⟨_, rfl⟩
  obtain ⟨ns, hns⟩ : ∃ n, sn.length = n := ⟨_, rfl⟩
  have HN := hid hn; have HNP := hid hnp; have HNS := hid hns
  rw [hn] at HB l1 ⊢
  rw [hnp] at HP l2 ⊢
  rw [hns] at HS l3 ⊢
  clear hn hnp hns
  go_enter Tryd.func32, Tryd.ntmps32
  go_upto_region 1 with fail
  generalize hW : World.alloc (World.alloc w _) _ = W1
  have KS : Hd (Keeps (fun _ => False) w W1) := hid (by rw [← hW]; exact (Keeps.alloc (Keeps.alloc (Keeps.refl (fun _ => False) w) _) _))
  have HB' : Hd (Bus (fun b => b < w.heap.size) W1 (.slice ab n cb) bs) := hid (HB.out.keep KS.out (fun _ _ _ h => h))
  have HP' : Hd (Sl (fun b => b < w.heap.size) W1 (.slice ap np cp) (i64s ps)) := hid (HP.out.keep KS.out (fun _ _ _ h => h))
  have HS' : Hd (Sl (fun b => b < w.heap.size) W1 (.slice aq ns cq) (i64s sn)) := hid (HS.out.keep KS.out (fun _ _ _ h => h))
  have BA : Hd (Blk W1 w.heap.size #[(.int .i64 q), (.slice ab n cb), (.slice ap np cp), (.slice aq ns cq)] 44) := hid (by rw [← hW]; exact (blk_alloc (blk_new _ _ _) _))
  have BR : Hd (Blk W1 (w.heap.size + 1) #[(.int .i64 0), (.slice none 0 0), (.slice none 0 0), (.slice none 0 0)] 44) := hid (by rw [← hW]; exact (blk_new' _ _ _ _ (by simp)))
  clear HB HP HS
  have HB := HB'
  clear HB'
  have HP := HP'
  clear HP'
  have HS := HS'
  clear HS'
  have HK : Hd (Keeps (fun _ => False) w W1) := hid KS.out
  have z_W1 : w.heap.size + 2 ≤ W1.heap.size := by rw [← hW]; simp
  clear hW KS
  generalize hb_BR : w.heap.size + 1 = b_BR at *
  have o_BA_0 : W1.cell? ⟨w.heap.size, 0, none⟩ = some ((.int .i64 q)) := blk_cell BA.out 0
  have o_BA_1 : W1.cell? ⟨w.heap.size, 1, none⟩ = some ((.slice ab n cb)) := blk_cell BA.out 1
  have o_BA_2 : W1.cell? ⟨w.heap.size, 2, none⟩ = some ((.slice ap np cp)) := blk_cell BA.out 2
  have o_BA_3 : W1.cell? ⟨w.heap.size, 3, none⟩ = some ((.slice aq ns cq)) := blk_cell BA.out 3
  go_wp2_with fail
  have hcc := copied_any (fun b => b < w.heap.size) q bs ps sn ab ap aq cb cp cq W1 (by rw [HN.out]; exact HB.out) (by rw [HNP.out]; exact HP.out) (by rw [HNS.out]; exact HS.out) (by rw [HN.out]; omega) (by rw [HNP.out]; omega) (by rw [HNS.out]; omega) (fun y hy => by have := HD.out y hy; omega)
  unfold CopR at hcc
  rw [HN.out, HNP.out, HNS.out] at hcc
  refine (hcc).mono ?_
  clear hcc
  rintro e W2 ⟨ab2, cb2, ap2, cp2, aq2, cq2, B1, rfl, hB1s, hB1b, hbp, hop, hoq, hdis, hk⟩
  have HBP := hid hbp; have HOP : Hd (Own (fun b => (Value.slice ap2 np cp2).ownBlock = some b ∧ W1.heap.size ≤ b ∧ b < B1) _ 3 1 (.slice ap2 np cp2) np (i64s ps)) := hid ⟨hop.1, fun k hk => ⟨hk, hop.2 k hk⟩⟩; have HOQ : Hd (Own (fun b => (Value.slice aq2 ns cq2).ownBlock = some b ∧ W1.heap.size ≤ b ∧ b < B1) _ 3 1 (.slice aq2 ns cq2) ns (i64s sn)) := hid ⟨hoq.1, fun k hk => ⟨hk, hoq.2 k hk⟩⟩; have HDIS := hid hdis
  clear hbp hop hoq hdis
  clear o_BA_0 o_BA_1 o_BA_2 o_BA_3
  have HB' : Hd (Bus (fun b => b < w.heap.size) W2 (.slice ab n cb) bs) := hid (HB.out.keep hk (fun _ _ _ h => h))
  have HP' : Hd (Sl (fun b => b < w.heap.size) W2 (.slice ap np cp) (i64s ps)) := hid (HP.out.keep hk (fun _ _ _ h => h))
  have HS' : Hd (Sl (fun b => b < w.heap.size) W2 (.slice aq ns cq) (i64s sn)) := hid (HS.out.keep hk (fun _ _ _ h => h))
  have BA' : Hd (Blk W2 w.heap.size #[(.int .i64 q), (.slice ab n cb), (.slice ap np cp), (.slice aq ns cq)] 44) := hid (blk_keep BA.out hk (fun h => h))
  have BR' : Hd (Blk W2 b_BR #[(.int .i64 0), (.slice none 0 0), (.slice none 0 0), (.slice none 0 0)] 44) := hid (blk_keep BR.out hk (fun h => h))
  clear HB HP HS BA BR
  have HB := HB'
  clear HB'
  have HP := HP'
  clear HP'
  have HS := HS'
  clear HS'
  have BA := BA'
  clear BA'
  have BR := BR'
  clear BR'
  have HK' : Hd (Keeps (fun _ => False) w W2) := hid (HK.out.trans hk)
  clear HK
  have HK := HK'
  clear HK'
  have z_W2 := hk.size
  clear hk
  have HBQ : Hd (BuQ (fun b => B1 ≤ b ∧ b < W2.heap.size) W2 (.slice ab2 n cb2) bs) := hid (HBP.out.buq (fun b hb h => ⟨h, by omega⟩) (fun b hb h => ⟨h, by omega⟩))
  clear HBP
  have o_BA_0 : W2.cell? ⟨w.heap.size, 0, none⟩ = some ((.int .i64 q)) := blk_cell BA.out 0
  have o_BA_1 : W2.cell? ⟨w.heap.size, 1, none⟩ = some ((.slice ab n cb)) := blk_cell BA.out 1
  have o_BA_2 : W2.cell? ⟨w.heap.size, 2, none⟩ = some ((.slice ap np cp)) := blk_cell BA.out 2
  have o_BA_3 : W2.cell? ⟨w.heap.size, 3, none⟩ = some ((.slice aq ns cq)) := blk_cell BA.out 3
  have f_BA_0 : W2.frozen? ⟨w.heap.size, 0, none⟩ = false := blk_free BA.out 0
  have f_BA_1 : W2.frozen? ⟨w.heap.size, 1, none⟩ = false := blk_free BA.out 1
  have f_BA_2 : W2.frozen? ⟨w.heap.size, 2, none⟩ = false := blk_free BA.out 2
  have f_BA_3 : W2.frozen? ⟨w.heap.size, 3, none⟩ = false := blk_free BA.out 3
  go_upto_region 2 with fail
  clear o_BA_0 o_BA_1 o_BA_2 o_BA_3 f_BA_0 f_BA_1 f_BA_2 f_BA_3
  generalize hW : World.alloc W2 _ = W3
  have KS : Hd (Keeps (fun _ => False) W2 W3) := hid (by rw [← hW]; exact (Keeps.alloc (Keeps.refl (fun _ => False) W2) _))
  have HB' : Hd (Bus (fun b => b < w.heap.size) W3 (.slice ab n cb) bs) := hid (HB.out.keep KS.out (fun _ _ _ h => h))
  have HP' : Hd (Sl (fun b => b < w.heap.size) W3 (.slice ap np cp) (i64s ps)) := hid (HP.out.keep KS.out (fun _ _ _ h => h))
  have HS' : Hd (Sl (fun b => b < w.heap.size) W3 (.slice aq ns cq) (i64s sn)) := hid (HS.out.keep KS.out (fun _ _ _ h => h))
  have BA' : Hd (Blk W3 w.heap.size #[(.int .i64 q), (.slice ab n cb), (.slice ap np cp), (.slice aq ns cq)] 44) := hid (by rw [← hW]; exact (blk_alloc BA.out _))
  have BR' : Hd (Blk W3 b_BR #[(.int .i64 0), (.slice none 0 0), (.slice none 0 0), (.slice none 0 0)] 44) := hid (by rw [← hW]; exact (blk_alloc BR.out _))
  have HOP' : Hd (Own (fun b => (Value.slice ap2 np cp2).ownBlock = some b ∧ W1.heap.size ≤ b ∧ b < B1) W3 3 1 (.slice ap2 np cp2) np (i64s ps)) := hid (HOP.out.keep KS.out (fun _ _ _ h => h))
  have HOQ' : Hd (Own (fun b => (Value.slice aq2 ns cq2).ownBlock = some b ∧ W1.heap.size ≤ b ∧ b < B1) W3 3 1 (.slice aq2 ns cq2) ns (i64s sn)) := hid (HOQ.out.keep KS.out (fun _ _ _ h => h))
  have HBQ' : Hd (BuQ (fun b => B1 ≤ b ∧ b < W2.heap.size) W3 (.slice ab2 n cb2) bs) := hid (HBQ.out.keep KS.out (fun _ _ _ h => h))
  have BO : Hd (Blk W3 W2.heap.size #[(.int .i64 q), (.slice ab2 n cb2), (.slice ap2 np cp2), (.slice aq2 ns cq2)] 44) := hid (by rw [← hW]; exact (blk_new _ _ _))
  clear HB HP HS BA BR HOP HOQ HBQ
  have HB := HB'
  clear HB'
  have HP := HP'
  clear HP'
  have HS := HS'
  clear HS'
  have BA := BA'
  clear BA'
  have BR := BR'
  clear BR'
  have HOP := HOP'
  clear HOP'
  have HOQ := HOQ'
  clear HOQ'
  have HBQ := HBQ'
  clear HBQ'
  have HK' : Hd (Keeps (fun _ => False) w W3) := hid (HK.out.trans KS.out)
  clear HK
  have HK := HK'
  clear HK'
  have z_W3 : W2.heap.size + 1 ≤ W3.heap.size := by rw [← hW]; simp
  clear hW KS
  generalize hbO : W2.heap.size = b_O at *
  clear hbO
  have o_BO_2 : W3.cell? ⟨b_O, 2, none⟩ = some ((.slice ap2 np cp2)) := blk_cell BO.out 2
  have f_BO_2 : W3.frozen? ⟨b_O, 2, none⟩ = false := blk_free BO.out 2
  go_upto_region 3 with fail
  clear o_BO_2 f_BO_2
  have HOQ2 : Hd (Own (fun b => W1.heap.size ≤ b ∧ b < b_O) W3 3 1 (.slice aq2 ns cq2) ns (i64s sn)) := hid (HOQ.out.mono (fun b _ h => ⟨h.2.1, by omega⟩))
  clear HOQ HOP
  generalize hW : World.setCell W3 _ _ = W4
  have KS : Hd (Keeps (fun b => b = b_O) W3 W4) := hid (by rw [← hW]; exact (Keeps.setCell (S := fun b => b = b_O) (p := ⟨b_O, 2, none⟩) (Keeps.refl (fun b => b = b_O) W3) (.inl rfl) _))
  have HB' : Hd (Bus (fun b => b < w.heap.size) W4 (.slice ab n cb) bs) := hid (HB.out.keep KS.out (fun b _ h1 h2 => by omega))
  have HP' : Hd (Sl (fun b => b < w.heap.size) W4 (.slice ap np cp) (i64s ps)) := hid (HP.out.keep KS.out (fun b _ h1 h2 => by omega))
  have HS' : Hd (Sl (fun b => b < w.heap.size) W4 (.slice aq ns cq) (i64s sn)) := hid (HS.out.keep KS.out (fun b _ h1 h2 => by omega))
  have BA' : Hd (Blk W4 w.heap.size #[(.int .i64 q), (.slice ab n cb), (.slice ap np cp), (.slice aq ns cq)] 44) := hid (by rw [← hW]; exact (blk_other BA.out (by omega) _ _))
  have BR' : Hd (Blk W4 b_BR #[(.int .i64 0), (.slice none 0 0), (.slice none 0 0), (.slice none 0 0)] 44) := hid (by rw [← hW]; exact (blk_other BR.out (by omega) _ _))
  have HBQ' : Hd (BuQ (fun b => B1 ≤ b ∧ b < b_O) W4 (.slice ab2 n cb2) bs) := hid (HBQ.out.keep KS.out (fun b _ h1 h2 => by omega))
  have BO' : Hd (Blk W4 b_O #[(.int .i64 q), (.slice ab2 n cb2), (.slice none 0 0), (.slice aq2 ns cq2)] 44) := hid (by rw [← hW]; exact (blk_set BO.out 2 _))
  have HOQ2' : Hd (Own (fun b => W1.heap.size ≤ b ∧ b < b_O) W4 3 1 (.slice aq2 ns cq2) ns (i64s sn)) := hid (HOQ2.out.keep KS.out (fun b _ h1 h2 => by omega))
  clear HB HP HS BA BR HBQ BO HOQ2
  have HB := HB'
  clear HB'
  have HP := HP'
  clear HP'
  have HS := HS'
  clear HS'
  have BA := BA'
  clear BA'
  have BR := BR'
  clear BR'
  have HBQ := HBQ'
  clear HBQ'
  have BO := BO'
  clear BO'
  have HOQ2 := HOQ2'
  clear HOQ2'
  have HK' : Hd (Keeps (fun _ => False) w W4) := hid (HK.out.trans' KS.out (fun i hi h => by omega))
  clear HK
  have HK := HK'
  clear HK'
  have z_W4 : W3.heap.size + 0 ≤ W4.heap.size := by rw [← hW]; simp
  clear hW KS
  have o_BO_0 : W4.cell? ⟨b_O, 0, none⟩ = some ((.int .i64 q)) := blk_cell BO.out 0
  have o_BO_1 : W4.cell? ⟨b_O, 1, none⟩ = some ((.slice ab2 n cb2)) := blk_cell BO.out 1
  have o_BO_2 : W4.cell? ⟨b_O, 2, none⟩ = some ((.slice none 0 0)) := blk_cell BO.out 2
  have o_BO_3 : W4.cell? ⟨b_O, 3, none⟩ = some ((.slice aq2 ns cq2)) := blk_cell BO.out 3
  have o_BR_0 : W4.cell? ⟨b_BR, 0, none⟩ = some ((.int .i64 0)) := blk_cell BR.out 0
  have o_BR_1 : W4.cell? ⟨b_BR, 1, none⟩ = some ((.slice none 0 0)) := blk_cell BR.out 1
  have o_BR_2 : W4.cell? ⟨b_BR, 2, none⟩ = some ((.slice none 0 0)) := blk_cell BR.out 2
  have o_BR_3 : W4.cell? ⟨b_BR, 3, none⟩ = some ((.slice none 0 0)) := blk_cell BR.out 3
  have f_BR_0 : W4.frozen? ⟨b_BR, 0, none⟩ = false := blk_free BR.out 0
  have f_BR_1 : W4.frozen? ⟨b_BR, 1, none⟩ = false := blk_free BR.out 1
  have f_BR_2 : W4.frozen? ⟨b_BR, 2, none⟩ = false := blk_free BR.out 2
  have f_BR_3 : W4.frozen? ⟨b_BR, 3, none⟩ = false := blk_free BR.out 3
  go_wp2
  clear o_BO_0 o_BO_1 o_BO_2 o_BO_3 o_BR_0 o_BR_1 o_BR_2 o_BR_3 f_BR_0 f_BR_1 f_BR_2 f_BR_3
  obtain ⟨HV2, B3⟩ := fin4 HK.out (show w.heap.size ≤ b_BR by omega) BR.out (.int .i64 q) (.slice ab2 n cb2) (.slice none 0 0) (.slice aq2 ns cq2)
  have r0 := blk_cell B3 0
  have r1 := blk_cell B3 1
  have r2 := blk_cell B3 2
  have r3 := blk_cell B3 3
  have kf := keep4 W4 b_BR (.int .i64 q) (.slice ab2 n cb2) (.slice none 0 0) (.slice aq2 ns cq2)
  refine bodyPost_ret (v := .agg #[.int .i64 q, .slice ab2 n cb2, .slice none 0 0, .slice aq2 ns cq2]) (by simp [results, Tryd.results32, go_sem, r0, r1, r2, r3]) rfl ?_
  exact ⟨_, rfl, ⟨ab2, cb2, none, 0, aq2, cq2, rfl, (HBQ.out.bus.keep kf (fun b h1 h2 h3 => by omega)).mono (fun b _ h => by omega), Sl.nil _ _, ((row_sl HOQ2.out.row (by rw [i64s_length, HNS.out])).keep kf (fun b h1 h2 h3 => by omega)).mono (fun b _ h => by omega)⟩, HV2⟩
set_option maxRecDepth 100000 in set_option maxHeartbeats 1000000 in
theorem Pass_any (K : Nat → Prop) (q : Int) (bs : List Bu) (ps sn : List Int) (ab ap aq : Option Addr) (cb cp cq : Nat) (w : World) (hb : Bus K w (.slice ab bs.length cb) bs) (hp : Sl K w (.slice ap ps.length cp) (i64s ps)) (hs : Sl K w (.slice aq sn.length cq) (i64s sn))
    (l1 : bs.length ≤ 100) (l2 : ps.length ≤ 1000) (l3 : sn.length ≤ 1000) (hd : ∀ x ∈ bs, x.d.length ≤ 256) (cn : Int) (hin : ∃ x ∈ bs, x.i = cn) (hnp : cn ∉ ps) (hps : ps.Pairwise (· < ·)) :
    Calls Tryd.prog 34 #[.agg #[.int .i64 q, .slice ab bs.length cb, .slice ap ps.length cp, .slice aq sn.length cq], .int .i64 cn] w fun e w' => ∃ v, e = .returned (.tuple #[v, .int .i64 0]) ∧ StO (fun b => w.heap.size ≤ b) q bs (insI ps cn) sn v w' ∧ Keeps (fun _ => False) w w' := by
  have HIN := hid hin; have HNI := hid hnp; have HPS := hid hps
  clear hin hnp hps
  have HIL : Hd ((insI ps cn).length = ps.length + 1) := hid (by unfold insI; have := posI_le ps cn; simp; omega)
  unfold StO
  rw [HIL.out]
  have HB := hid (hb.mono (K' := fun b => b < w.heap.size) (fun b h _ => h)); have HP := hid (hp.mono (K' := fun b => b < w.heap.size) (fun b h _ => h)); have HS := hid (hs.mono (K' := fun b => b < w.heap.size) (fun b h _ => h)); have HD := hid hd
  clear hb hp hs hd
  obtain ⟨n, hn⟩ : ∃ n, bs.length = n := ⟨_, rfl⟩
  obtain ⟨np, hnp⟩ : ∃ n, ps.length = n := ⟨_, rfl⟩
  obtain ⟨ns, hns⟩ : ∃ n, sn.length = n := ⟨_, rfl⟩
  have HN := hid hn; have HNP := hid hnp; have HNS := hid hns
  rw [hn] at HB l1 ⊢
  rw [hnp] at HP l2 ⊢
  rw [hns] at HS l3 ⊢
  clear hn hnp hns
  go_enter Tryd.func34, Tryd.ntmps34
  go_upto_region 1 with fail
  generalize hW : World.alloc (World.alloc w _) _ = W1
  have KS : Hd (Keeps (fun _ => False) w W1) := hid (by rw [← hW]; exact (Keeps.alloc (Keeps.alloc (Keeps.refl (fun _ => False) w) _) _))
  have HB' : Hd (Bus (fun b => b < w.heap.size) W1 (.slice ab n cb) bs) := hid (HB.out.keep KS.out (fun _ _ _ h => h))
  have HP' : Hd (Sl (fun b => b < w.heap.size) W1 (.slice ap np cp) (i64s ps)) := hid (HP.out.keep KS.out (fun _ _ _ h => h))
  have HS' : Hd (Sl (fun b => b < w.heap.size) W1 (.slice aq ns cq) (i64s sn)) := hid (HS.out.keep KS.out (fun _ _ _ h => h))
  have BA : Hd (Blk W1 w.heap.size #[(.int .i64 q), (.slice ab n cb), (.slice ap np cp), (.slice aq ns cq)] 44) := hid (by rw [← hW]; exact (blk_alloc (blk_new _ _ _) _))
  have BR : Hd (Blk W1 (w.heap.size + 1) #[(.int .i64 0), (.slice none 0 0), (.slice none 0 0), (.slice none 0 0)] 44) := hid (by rw [← hW]; exact (blk_new' _ _ _ _ (by simp)))
  clear HB HP HS
  have HB := HB'
  clear HB'
  have HP := HP'
  clear HP'
  have HS := HS'
  clear HS'
  have HK : Hd (Keeps (fun _ => False) w W1) := hid KS.out
  have z_W1 : w.heap.size + 2 ≤ W1.heap.size := by rw [← hW]; simp
  clear hW KS
  generalize hb_BR : w.heap.size + 1 = b_BR at *
  have o_BA_0 : W1.cell? ⟨w.heap.size, 0, none⟩ = some ((.int .i64 q)) := blk_cell BA.out 0
  have o_BA_1 : W1.cell? ⟨w.heap.size, 1, none⟩ = some ((.slice ab n cb)) := blk_cell BA.out 1
  have o_BA_2 : W1.cell? ⟨w.heap.size, 2, none⟩ = some ((.slice ap np cp)) := blk_cell BA.out 2
  have o_BA_3 : W1.cell? ⟨w.heap.size, 3, none⟩ = some ((.slice aq ns cq)) := blk_cell BA.out 3
  go_wp2_with fail
  have hcc := find_any (fun b => b < w.heap.size) bs q ab cb (.slice ap np cp) (.slice aq ns cq) cn W1 (by rw [HN.out]; exact HB.out) (by rw [HN.out]; omega)
  rw [HN.out] at hcc
  unfold FindPost at hcc
  refine hcc.mono ?_
  clear hcc
  rintro e W2 ⟨⟨k, y, rfl, hy1, hy2, hy3⟩ | ⟨rfl, hy1⟩, hk⟩
  rotate_left
  · exact absurd HIN.out (fun ⟨x, hx, hx2⟩ => hy1 x hx hx2)
  clear hy2 hy3
  have q1 : ¬ ((k : Int) < 0) := by omega
  clear hy1
  clear o_BA_0 o_BA_1 o_BA_2 o_BA_3
  have HB' : Hd (Bus (fun b => b < w.heap.size) W2 (.slice ab n cb) bs) := hid (HB.out.keep hk (fun _ _ _ h => h))
  have HP' : Hd (Sl (fun b => b < w.heap.size) W2 (.slice ap np cp) (i64s ps)) := hid (HP.out.keep hk (fun _ _ _ h => h))
  have HS' : Hd (Sl (fun b => b < w.heap.size) W2 (.slice aq ns cq) (i64s sn)) := hid (HS.out.keep hk (fun _ _ _ h => h))
  have BA' : Hd (Blk W2 w.heap.size #[(.int .i64 q), (.slice ab n cb), (.slice ap np cp), (.slice aq ns cq)] 44) := hid (blk_keep BA.out hk (fun h => h))
  have BR' : Hd (Blk W2 b_BR #[(.int .i64 0), (.slice none 0 0), (.slice none 0 0), (.slice none 0 0)] 44) := hid (blk_keep BR.out hk (fun h => h))
  clear HB HP HS BA BR
  have HB := HB'
  clear HB'
  have HP := HP'
  clear HP'
  have HS := HS'
  clear HS'
  have BA := BA'
  clear BA'
  have BR := BR'
  clear BR'
  have HK' : Hd (Keeps (fun _ => False) w W2) := hid (HK.out.trans hk)
  clear HK
  have HK := HK'
  clear HK'
  have z_W2 := hk.size
  clear hk
  have o_BA_0 : W2.cell? ⟨w.heap.size, 0, none⟩ = some ((.int .i64 q)) := blk_cell BA.out 0
  have o_BA_1 : W2.cell? ⟨w.heap.size, 1, none⟩ = some ((.slice ab n cb)) := blk_cell BA.out 1
  have o_BA_2 : W2.cell? ⟨w.heap.size, 2, none⟩ = some ((.slice ap np cp)) := blk_cell BA.out 2
  have o_BA_3 : W2.cell? ⟨w.heap.size, 3, none⟩ = some ((.slice aq ns cq)) := blk_cell BA.out 3
  go_wp2_with fail
  have hcc := copied_any (fun b => b < w.heap.size) q bs ps sn ab ap aq cb cp cq W2 (by rw [HN.out]; exact HB.out) (by rw [HNP.out]; exact HP.out) (by rw [HNS.out]; exact HS.out) (by rw [HN.out]; omega) (by rw [HNP.out]; omega) (by rw [HNS.out]; omega) (fun y hy => by have := HD.out y hy; omega)
  unfold CopR at hcc
  rw [HN.out, HNP.out, HNS.out] at hcc
  refine (hcc).mono ?_
  clear hcc
  rintro e W3 ⟨ab2, cb2, ap2, cp2, aq2, cq2, B1, rfl, hB1s, hB1b, hbp, hop, hoq, hdis, hk⟩
  have HBP := hid hbp; have HOP : Hd (Own (fun b => (Value.slice ap2 np cp2).ownBlock = some b ∧ W2.heap.size ≤ b ∧ b < B1) _ 3 1 (.slice ap2 np cp2) np (i64s ps)) := hid ⟨hop.1, fun k hk => ⟨hk, hop.2 k hk⟩⟩; have HOQ : Hd (Own (fun b => (Value.slice aq2 ns cq2).ownBlock = some b ∧ W2.heap.size ≤ b ∧ b < B1) _ 3 1 (.slice aq2 ns cq2) ns (i64s sn)) := hid ⟨hoq.1, fun k hk => ⟨hk, hoq.2 k hk⟩⟩; have HDIS := hid hdis
  clear hbp hop hoq hdis
  clear o_BA_0 o_BA_1 o_BA_2 o_BA_3
  have HB' : Hd (Bus (fun b => b < w.heap.size) W3 (.slice ab n cb) bs) := hid (HB.out.keep hk (fun _ _ _ h => h))
  have HP' : Hd (Sl (fun b => b < w.heap.size) W3 (.slice ap np cp) (i64s ps)) := hid (HP.out.keep hk (fun _ _ _ h => h))
  have HS' : Hd (Sl (fun b => b < w.heap.size) W3 (.slice aq ns cq) (i64s sn)) := hid (HS.out.keep hk (fun _ _ _ h => h))
  have BA' : Hd (Blk W3 w.heap.size #[(.int .i64 q), (.slice ab n cb), (.slice ap np cp), (.slice aq ns cq)] 44) := hid (blk_keep BA.out hk (fun h => h))
  have BR' : Hd (Blk W3 b_BR #[(.int .i64 0), (.slice none 0 0), (.slice none 0 0), (.slice none 0 0)] 44) := hid (blk_keep BR.out hk (fun h => h))
  clear HB HP HS BA BR
  have HB := HB'
  clear HB'
  have HP := HP'
  clear HP'
  have HS := HS'
  clear HS'
  have BA := BA'
  clear BA'
  have BR := BR'
  clear BR'
  have HK' : Hd (Keeps (fun _ => False) w W3) := hid (HK.out.trans hk)
  clear HK
  have HK := HK'
  clear HK'
  have z_W3 := hk.size
  clear hk
  have HBQ : Hd (BuQ (fun b => B1 ≤ b ∧ b < W3.heap.size) W3 (.slice ab2 n cb2) bs) := hid (HBP.out.buq (fun b hb h => ⟨h, by omega⟩) (fun b hb h => ⟨h, by omega⟩))
  clear HBP
  have o_BA_0 : W3.cell? ⟨w.heap.size, 0, none⟩ = some ((.int .i64 q)) := blk_cell BA.out 0
  have o_BA_1 : W3.cell? ⟨w.heap.size, 1, none⟩ = some ((.slice ab n cb)) := blk_cell BA.out 1
  have o_BA_2 : W3.cell? ⟨w.heap.size, 2, none⟩ = some ((.slice ap np cp)) := blk_cell BA.out 2
  have o_BA_3 : W3.cell? ⟨w.heap.size, 3, none⟩ = some ((.slice aq ns cq)) := blk_cell BA.out 3
  have f_BA_0 : W3.frozen? ⟨w.heap.size, 0, none⟩ = false := blk_free BA.out 0
  have f_BA_1 : W3.frozen? ⟨w.heap.size, 1, none⟩ = false := blk_free BA.out 1
  have f_BA_2 : W3.frozen? ⟨w.heap.size, 2, none⟩ = false := blk_free BA.out 2
  have f_BA_3 : W3.frozen? ⟨w.heap.size, 3, none⟩ = false := blk_free BA.out 3
  go_upto_region 4 with fail
  clear o_BA_0 o_BA_1 o_BA_2 o_BA_3 f_BA_0 f_BA_1 f_BA_2 f_BA_3
  generalize hW : World.alloc W3 _ = W4
  have KS : Hd (Keeps (fun _ => False) W3 W4) := hid (by rw [← hW]; exact (Keeps.alloc (Keeps.refl (fun _ => False) W3) _))
  have HB' : Hd (Bus (fun b => b < w.heap.size) W4 (.slice ab n cb) bs) := hid (HB.out.keep KS.out (fun _ _ _ h => h))
  have HP' : Hd (Sl (fun b => b < w.heap.size) W4 (.slice ap np cp) (i64s ps)) := hid (HP.out.keep KS.out (fun _ _ _ h => h))
  have HS' : Hd (Sl (fun b => b < w.heap.size) W4 (.slice aq ns cq) (i64s sn)) := hid (HS.out.keep KS.out (fun _ _ _ h => h))
  have BA' : Hd (Blk W4 w.heap.size #[(.int .i64 q), (.slice ab n cb), (.slice ap np cp), (.slice aq ns cq)] 44) := hid (by rw [← hW]; exact (blk_alloc BA.out _))
  have BR' : Hd (Blk W4 b_BR #[(.int .i64 0), (.slice none 0 0), (.slice none 0 0), (.slice none 0 0)] 44) := hid (by rw [← hW]; exact (blk_alloc BR.out _))
  have HOP' : Hd (Own (fun b => (Value.slice ap2 np cp2).ownBlock = some b ∧ W2.heap.size ≤ b ∧ b < B1) W4 3 1 (.slice ap2 np cp2) np (i64s ps)) := hid (HOP.out.keep KS.out (fun _ _ _ h => h))
  have HOQ' : Hd (Own (fun b => (Value.slice aq2 ns cq2).ownBlock = some b ∧ W2.heap.size ≤ b ∧ b < B1) W4 3 1 (.slice aq2 ns cq2) ns (i64s sn)) := hid (HOQ.out.keep KS.out (fun _ _ _ h => h))
  have HBQ' : Hd (BuQ (fun b => B1 ≤ b ∧ b < W3.heap.size) W4 (.slice ab2 n cb2) bs) := hid (HBQ.out.keep KS.out (fun _ _ _ h => h))
  have BO : Hd (Blk W4 W3.heap.size #[(.int .i64 q), (.slice ab2 n cb2), (.slice ap2 np cp2), (.slice aq2 ns cq2)] 44) := hid (by rw [← hW]; exact (blk_new _ _ _))
  clear HB HP HS BA BR HOP HOQ HBQ
  have HB := HB'
  clear HB'
  have HP := HP'
  clear HP'
  have HS := HS'
  clear HS'
  have BA := BA'
  clear BA'
  have BR := BR'
  clear BR'
  have HOP := HOP'
  clear HOP'
  have HOQ := HOQ'
  clear HOQ'
  have HBQ := HBQ'
  clear HBQ'
  have HK' : Hd (Keeps (fun _ => False) w W4) := hid (HK.out.trans KS.out)
  clear HK
  have HK := HK'
  clear HK'
  have z_W4 : W3.heap.size + 1 ≤ W4.heap.size := by rw [← hW]; simp
  clear hW KS
  generalize hbO : W3.heap.size = b_O at *
  clear hbO
  have HOQ2 : Hd (Own (fun b => (Value.slice aq2 ns cq2).ownBlock = some b ∧ W2.heap.size ≤ b ∧ b < b_O) W4 3 1 (.slice aq2 ns cq2) ns (i64s sn)) := hid (HOQ.out.mono (fun b _ h => ⟨h.1, h.2.1, by omega⟩))
  clear HOQ
  have o_BO_2 : W4.cell? ⟨b_O, 2, none⟩ = some ((.slice ap2 np cp2)) := blk_cell BO.out 2
  go_wp2_with fail
  have hcc := insert_yes (fun b => (Value.slice ap2 np cp2).ownBlock = some b) (.slice ap2 np cp2) ps cn W4 (by rw [HNP.out]; exact ⟨HOP.out.1, fun _ h => h⟩) (by rw [HNP.out]; omega) HPS.out HNI.out
  rw [HNP.out] at hcc
  have HPO : Hd (∀ b, (Value.slice ap2 np cp2).ownBlock = some b → W2.heap.size ≤ b ∧ b < B1) := hid (fun b hb => (HOP.out.2 b hb).2)
  refine hcc.mono ?_
  clear hcc
  rintro e W5 ⟨a8, c8, rfl, hsl, hk⟩
  have HSL := hid (hsl.mono (K' := fun b => W2.heap.size ≤ b ∧ b ≠ b_O) (fun b _ h => by rcases h with h | h; (have := HPO.out b h; omega); (have := blk_lt BO.out; omega)))
  clear hsl HOP
  clear o_BO_2
  have HB' : Hd (Bus (fun b => b < w.heap.size) W5 (.slice ab n cb) bs) := hid (HB.out.keep hk (fun b _ h1 h2 => by have := HPO.out b h2; omega))
  have HP' : Hd (Sl (fun b => b < w.heap.size) W5 (.slice ap np cp) (i64s ps)) := hid (HP.out.keep hk (fun b _ h1 h2 => by have := HPO.out b h2; omega))
  have HS' : Hd (Sl (fun b => b < w.heap.size) W5 (.slice aq ns cq) (i64s sn)) := hid (HS.out.keep hk (fun b _ h1 h2 => by have := HPO.out b h2; omega))
  have BA' : Hd (Blk W5 w.heap.size #[(.int .i64 q), (.slice ab n cb), (.slice ap np cp), (.slice aq ns cq)] 44) := hid (blk_keep BA.out hk (fun h => by have := HPO.out _ h; omega))
  have BR' : Hd (Blk W5 b_BR #[(.int .i64 0), (.slice none 0 0), (.slice none 0 0), (.slice none 0 0)] 44) := hid (blk_keep BR.out hk (fun h => by have := HPO.out _ h; omega))
  have HBQ' : Hd (BuQ (fun b => B1 ≤ b ∧ b < b_O) W5 (.slice ab2 n cb2) bs) := hid (HBQ.out.keep hk (fun b _ h1 h2 => by have := HPO.out b h2; omega))
  have BO' : Hd (Blk W5 b_O #[(.int .i64 q), (.slice ab2 n cb2), (.slice ap2 np cp2), (.slice aq2 ns cq2)] 44) := hid (blk_keep BO.out hk (fun h => by have := HPO.out _ h; omega))
  have HOQ2' : Hd (Own (fun b => (Value.slice aq2 ns cq2).ownBlock = some b ∧ W2.heap.size ≤ b ∧ b < b_O) W5 3 1 (.slice aq2 ns cq2) ns (i64s sn)) := hid (HOQ2.out.keep hk (fun b hb h1 h2 => HDIS.out b h2 h1.1))
  clear HB HP HS BA BR HBQ BO HOQ2
  have HB := HB'
  clear HB'
  have HP := HP'
  clear HP'
  have HS := HS'
  clear HS'
  have BA := BA'
  clear BA'
  have BR := BR'
  clear BR'
  have HBQ := HBQ'
  clear HBQ'
  have BO := BO'
  clear BO'
  have HOQ2 := HOQ2'
  clear HOQ2'
  have HK' : Hd (Keeps (fun _ => False) w W5) := hid (HK.out.trans' hk (fun i hi h => by have := HPO.out i h; omega))
  clear HK
  have HK := HK'
  clear HK'
  have z_W5 := hk.size
  clear hk
  have o_BO_2 : W5.cell? ⟨b_O, 2, none⟩ = some ((.slice ap2 np cp2)) := blk_cell BO.out 2
  have f_BO_2 : W5.frozen? ⟨b_O, 2, none⟩ = false := blk_free BO.out 2
  go_upto_region 6 with fail
  clear o_BO_2 f_BO_2
  generalize hW : World.setCell W5 _ _ = W6
  have KS : Hd (Keeps (fun b => b = b_O) W5 W6) := hid (by rw [← hW]; exact (Keeps.setCell (S := fun b => b = b_O) (p := ⟨b_O, 2, none⟩) (Keeps.refl (fun b => b = b_O) W5) (.inl rfl) _))
  have HB' : Hd (Bus (fun b => b < w.heap.size) W6 (.slice ab n cb) bs) := hid (HB.out.keep KS.out (fun b _ h1 h2 => by omega))
  have HP' : Hd (Sl (fun b => b < w.heap.size) W6 (.slice ap np cp) (i64s ps)) := hid (HP.out.keep KS.out (fun b _ h1 h2 => by omega))
  have HS' : Hd (Sl (fun b => b < w.heap.size) W6 (.slice aq ns cq) (i64s sn)) := hid (HS.out.keep KS.out (fun b _ h1 h2 => by omega))
  have BA' : Hd (Blk W6 w.heap.size #[(.int .i64 q), (.slice ab n cb), (.slice ap np cp), (.slice aq ns cq)] 44) := hid (by rw [← hW]; exact (blk_other BA.out (by omega) _ _))
  have BR' : Hd (Blk W6 b_BR #[(.int .i64 0), (.slice none 0 0), (.slice none 0 0), (.slice none 0 0)] 44) := hid (by rw [← hW]; exact (blk_other BR.out (by omega) _ _))
  have HBQ' : Hd (BuQ (fun b => B1 ≤ b ∧ b < b_O) W6 (.slice ab2 n cb2) bs) := hid (HBQ.out.keep KS.out (fun b _ h1 h2 => by omega))
  have BO' : Hd (Blk W6 b_O #[(.int .i64 q), (.slice ab2 n cb2), (.slice a8 (np + 1) c8), (.slice aq2 ns cq2)] 44) := hid (by rw [← hW]; exact (blk_set BO.out 2 _))
  have HOQ2' : Hd (Own (fun b => (Value.slice aq2 ns cq2).ownBlock = some b ∧ W2.heap.size ≤ b ∧ b < b_O) W6 3 1 (.slice aq2 ns cq2) ns (i64s sn)) := hid (HOQ2.out.keep KS.out (fun b _ h1 h2 => by omega))
  have HSL' : Hd (Sl (fun b => W2.heap.size ≤ b ∧ b ≠ b_O) W6 (.slice a8 (np + 1) c8) (i64s (insI ps cn))) := hid (HSL.out.keep KS.out (fun b _ h1 h2 => by omega))
  clear HB HP HS BA BR HBQ BO HOQ2 HSL
  have HB := HB'
  clear HB'
  have HP := HP'
  clear HP'
  have HS := HS'
  clear HS'
  have BA := BA'
  clear BA'
  have BR := BR'
  clear BR'
  have HBQ := HBQ'
  clear HBQ'
  have BO := BO'
  clear BO'
  have HOQ2 := HOQ2'
  clear HOQ2'
  have HSL := HSL'
  clear HSL'
  have HK' : Hd (Keeps (fun _ => False) w W6) := hid (HK.out.trans' KS.out (fun i hi h => by omega))
  clear HK
  have HK := HK'
  clear HK'
  have z_W6 : W5.heap.size + 0 ≤ W6.heap.size := by rw [← hW]; simp
  clear hW KS
  have o_BO_0 : W6.cell? ⟨b_O, 0, none⟩ = some ((.int .i64 q)) := blk_cell BO.out 0
  have o_BO_1 : W6.cell? ⟨b_O, 1, none⟩ = some ((.slice ab2 n cb2)) := blk_cell BO.out 1
  have o_BO_2 : W6.cell? ⟨b_O, 2, none⟩ = some ((.slice a8 (np + 1) c8)) := blk_cell BO.out 2
  have o_BO_3 : W6.cell? ⟨b_O, 3, none⟩ = some ((.slice aq2 ns cq2)) := blk_cell BO.out 3
  have o_BR_0 : W6.cell? ⟨b_BR, 0, none⟩ = some ((.int .i64 0)) := blk_cell BR.out 0
  have o_BR_1 : W6.cell? ⟨b_BR, 1, none⟩ = some ((.slice none 0 0)) := blk_cell BR.out 1
  have o_BR_2 : W6.cell? ⟨b_BR, 2, none⟩ = some ((.slice none 0 0)) := blk_cell BR.out 2
  have o_BR_3 : W6.cell? ⟨b_BR, 3, none⟩ = some ((.slice none 0 0)) := blk_cell BR.out 3
  have f_BR_0 : W6.frozen? ⟨b_BR, 0, none⟩ = false := blk_free BR.out 0
  have f_BR_1 : W6.frozen? ⟨b_BR, 1, none⟩ = false := blk_free BR.out 1
  have f_BR_2 : W6.frozen? ⟨b_BR, 2, none⟩ = false := blk_free BR.out 2
  have f_BR_3 : W6.frozen? ⟨b_BR, 3, none⟩ = false := blk_free BR.out 3
  go_wp2
  clear o_BO_0 o_BO_1 o_BO_2 o_BO_3 o_BR_0 o_BR_1 o_BR_2 o_BR_3 f_BR_0 f_BR_1 f_BR_2 f_BR_3
  obtain ⟨HV2, B3⟩ := fin4 HK.out (show w.heap.size ≤ b_BR by omega) BR.out (.int .i64 q) (.slice ab2 n cb2) (.slice a8 (np + 1) c8) (.slice aq2 ns cq2)
  have r0 := blk_cell B3 0
  have r1 := blk_cell B3 1
  have r2 := blk_cell B3 2
  have r3 := blk_cell B3 3
  have kf := keep4 W6 b_BR (.int .i64 q) (.slice ab2 n cb2) (.slice a8 (np + 1) c8) (.slice aq2 ns cq2)
  refine bodyPost_ret (v := .tuple #[.agg #[.int .i64 q, .slice ab2 n cb2, .slice a8 (np + 1) c8, .slice aq2 ns cq2], .int .i64 0]) (by simp [results, Tryd.results34, go_sem, r0, r1, r2, r3]) rfl ?_
  exact ⟨_, rfl, ⟨ab2, cb2, a8, c8, aq2, cq2, rfl, (HBQ.out.bus.keep kf (fun b h1 h2 h3 => by omega)).mono (fun b _ h => by omega), (HSL.out.keep kf (fun b h1 h2 h3 => by omega)).mono (fun b _ h => by omega), ((row_sl HOQ2.out.row (by rw [i64s_length, HNS.out])).keep kf (fun b h1 h2 h3 => by omega)).mono (fun b _ h => by omega)⟩, HV2⟩
theorem remove_any (S : Nat → Prop) (v : Value) (l : List Int) (x : Int) (w : World) (hv : Own S w 3 1 v l.length (i64s l)) (hn : l.length ≤ 1000000) (hs : l.Pairwise (· < ·)) :
    Calls Tryd.prog 71 #[v, .int .i64 x] w fun e w' => ∃ a c, e = .returned (.slice a (l.erase x).length c) ∧ Sl S w' (.slice a (l.erase x).length c) (i64s (l.erase x)) ∧ Keeps S w w' := by
  by_cases hx : x ∈ l
  · refine (remove_yes S v l x w hv hn hs hx).mono ?_
    rintro e w' ⟨a, c, rfl, h1, h2⟩
    rw [List.length_erase_of_mem hx]
    exact ⟨a, c, rfl, h1, h2⟩
  · have hv' : Sl S w v (i64s l) := row_sl hv.row (i64s_length l)
    refine (remove_no S v l x w hv' hn hs hx).mono ?_
    rintro e w' ⟨rfl, h2⟩
    rw [List.erase_of_not_mem hx]
    obtain ⟨a, c, rfl, -⟩ := hv'.ints
    exact ⟨a, c, rfl, hv'.keep h2 (fun _ _ _ h => h), h2.mono (fun _ _ h => h.elim)⟩
set_option maxRecDepth 100000 in set_option maxHeartbeats 1000000 in
theorem Confirm_no (K : Nat → Prop) (q : Int) (bs : List Bu) (ps sn : List Int) (ab ap aq : Option Addr) (cb cp cq : Nat) (w : World) (hb : Bus K w (.slice ab bs.length cb) bs) (hp : Sl K w (.slice ap ps.length cp) (i64s ps)) (hs : Sl K w (.slice aq sn.length cq) (i64s sn))
    (l1 : bs.length ≤ 100) (l2 : ps.length ≤ 1000) (l3 : sn.length ≤ 1000) (hd : ∀ x ∈ bs, x.d.length ≤ 256) (cn : Int) (hno : ∀ x ∈ bs, x.i ≠ cn) :
    Calls Tryd.prog 48 #[.agg #[.int .i64 q, .slice ab bs.length cb, .slice ap ps.length cp, .slice aq sn.length cq], .int .i64 cn] w fun e w' => e = .returned (.tuple #[.agg #[.int .i64 0, .slice none 0 0, .slice none 0 0, .slice none 0 0], .int .i64 3]) ∧ Keeps (fun _ => False) w w' := by
  have HNO := hid hno
  clear hno
  have HB := hid (hb.mono (K' := fun b => b < w.heap.size) (fun b h _ => h)); have HP := hid (hp.mono (K' := fun b => b < w.heap.size) (fun b h _ => h)); have HS := hid (hs.mono (K' := fun b => b < w.heap.size) (fun b h _ => h)); have HD := hid hd
  clear hb hp hs hd
  obtain ⟨n, hn⟩ : ∃ n, bs.length = n := ⟨_, rfl⟩
  obtain ⟨np, hnp⟩ : ∃ n, ps.length = n := ⟨_, rfl⟩
  obtain ⟨ns, hns⟩ : ∃ n, sn.length = n := ⟨_, rfl⟩
  have HN := hid hn; have HNP := hid hnp; have HNS := hid hns
  rw [hn] at HB l1 ⊢
  rw [hnp] at HP l2 ⊢
  rw [hns] at HS l3 ⊢
  clear hn hnp hns
  go_enter Tryd.func48, Tryd.ntmps48
  go_upto_region 1 with fail
  generalize hW : World.alloc (World.alloc w _) _ = W1
  have KS : Hd (Keeps (fun _ => False) w W1) := hid (by rw [← hW]; exact (Keeps.alloc (Keeps.alloc (Keeps.refl (fun _ => False) w) _) _))
  have HB' : Hd (Bus (fun b => b < w.heap.size) W1 (.slice ab n cb) bs) := hid (HB.out.keep KS.out (fun _ _ _ h => h))
  have HP' : Hd (Sl (fun b => b < w.heap.size) W1 (.slice ap np cp) (i64s ps)) := hid (HP.out.keep KS.out (fun _ _ _ h => h))
  have HS' : Hd (Sl (fun b => b < w.heap.size) W1 (.slice aq ns cq) (i64s sn)) := hid (HS.out.keep KS.out (fun _ _ _ h => h))
  have BA : Hd (Blk W1 w.heap.size #[(.int .i64 q), (.slice ab n cb), (.slice ap np cp), (.slice aq ns cq)] 44) := hid (by rw [← hW]; exact (blk_alloc (blk_new _ _ _) _))
  have BR : Hd (Blk W1 (w.heap.size + 1) #[(.int .i64 0), (.slice none 0 0), (.slice none 0 0), (.slice none 0 0)] 44) := hid (by rw [← hW]; exact (blk_new' _ _ _ _ (by simp)))
  clear HB HP HS
  have HB := HB'
  clear HB'
  have HP := HP'
  clear HP'
  have HS := HS'
  clear HS'
  have HK : Hd (Keeps (fun _ => False) w W1) := hid KS.out
  have z_W1 : w.heap.size + 2 ≤ W1.heap.size := by rw [← hW]; simp
  clear hW KS
  generalize hb_BR : w.heap.size + 1 = b_BR at *
  have o_BA_0 : W1.cell? ⟨w.heap.size, 0, none⟩ = some ((.int .i64 q)) := blk_cell BA.out 0
  have o_BA_1 : W1.cell? ⟨w.heap.size, 1, none⟩ = some ((.slice ab n cb)) := blk_cell BA.out 1
  have o_BA_2 : W1.cell? ⟨w.heap.size, 2, none⟩ = some ((.slice ap np cp)) := blk_cell BA.out 2
  have o_BA_3 : W1.cell? ⟨w.heap.size, 3, none⟩ = some ((.slice aq ns cq)) := blk_cell BA.out 3
  go_wp2_with fail
  have hcc := find_any (fun b => b < w.heap.size) bs q ab cb (.slice ap np cp) (.slice aq ns cq) cn W1 (by rw [HN.out]; exact HB.out) (by rw [HN.out]; omega)
  rw [HN.out] at hcc
  unfold FindPost at hcc
  refine hcc.mono ?_
  clear hcc
  rintro e W2 ⟨⟨k, y, rfl, hy1, hy2, hy3⟩ | ⟨rfl, hy1⟩, hk⟩
  · exact absurd hy2 (HNO.out y (List.mem_of_getElem? hy1))
  clear hy1
  clear o_BA_0 o_BA_1 o_BA_2 o_BA_3
  have HB' : Hd (Bus (fun b => b < w.heap.size) W2 (.slice ab n cb) bs) := hid (HB.out.keep hk (fun _ _ _ h => h))
  have HP' : Hd (Sl (fun b => b < w.heap.size) W2 (.slice ap np cp) (i64s ps)) := hid (HP.out.keep hk (fun _ _ _ h => h))
  have HS' : Hd (Sl (fun b => b < w.heap.size) W2 (.slice aq ns cq) (i64s sn)) := hid (HS.out.keep hk (fun _ _ _ h => h))
  have BA' : Hd (Blk W2 w.heap.size #[(.int .i64 q), (.slice ab n cb), (.slice ap np cp), (.slice aq ns cq)] 44) := hid (blk_keep BA.out hk (fun h => h))
  have BR' : Hd (Blk W2 b_BR #[(.int .i64 0), (.slice none 0 0), (.slice none 0 0), (.slice none 0 0)] 44) := hid (blk_keep BR.out hk (fun h => h))
  clear HB HP HS BA BR
  have HB := HB'
  clear HB'
  have HP := HP'
  clear HP'
  have HS := HS'
  clear HS'
  have BA := BA'
  clear BA'
  have BR := BR'
  clear BR'
  have HK' : Hd (Keeps (fun _ => False) w W2) := hid (HK.out.trans hk)
  clear HK
  have HK := HK'
  clear HK'
  have z_W2 := hk.size
  clear hk
  have o_BR_0 : W2.cell? ⟨b_BR, 0, none⟩ = some ((.int .i64 0)) := blk_cell BR.out 0
  have o_BR_1 : W2.cell? ⟨b_BR, 1, none⟩ = some ((.slice none 0 0)) := blk_cell BR.out 1
  have o_BR_2 : W2.cell? ⟨b_BR, 2, none⟩ = some ((.slice none 0 0)) := blk_cell BR.out 2
  have o_BR_3 : W2.cell? ⟨b_BR, 3, none⟩ = some ((.slice none 0 0)) := blk_cell BR.out 3
  have f_BR_0 : W2.frozen? ⟨b_BR, 0, none⟩ = false := blk_free BR.out 0
  have f_BR_1 : W2.frozen? ⟨b_BR, 1, none⟩ = false := blk_free BR.out 1
  have f_BR_2 : W2.frozen? ⟨b_BR, 2, none⟩ = false := blk_free BR.out 2
  have f_BR_3 : W2.frozen? ⟨b_BR, 3, none⟩ = false := blk_free BR.out 3
  go_wp2
  clear o_BR_0 o_BR_1 o_BR_2 o_BR_3 f_BR_0 f_BR_1 f_BR_2 f_BR_3
  obtain ⟨HV2, B3⟩ := fin4 HK.out (show w.heap.size ≤ b_BR by omega) BR.out (.int .i64 0) (.slice none 0 0) (.slice none 0 0) (.slice none 0 0)
  have r0 := blk_cell B3 0
  have r1 := blk_cell B3 1
  have r2 := blk_cell B3 2
  have r3 := blk_cell B3 3
  have kf := keep4 W2 b_BR (.int .i64 0) (.slice none 0 0) (.slice none 0 0) (.slice none 0 0)
  refine bodyPost_ret (v := .tuple #[.agg #[.int .i64 0, .slice none 0 0, .slice none 0 0, .slice none 0 0], .int .i64 3]) (by simp [results, Tryd.results48, go_sem, r0, r1, r2, r3]) rfl ?_
  exact ⟨rfl, HV2⟩
set_option maxRecDepth 100000 in set_option maxHeartbeats 1000000 in
theorem Confirm_yes (K : Nat → Prop) (q : Int) (bs : List Bu) (ps sn : List Int) (ab ap aq : Option Addr) (cb cp cq : Nat) (w : World) (hb : Bus K w (.slice ab bs.length cb) bs) (hp : Sl K w (.slice ap ps.length cp) (i64s ps)) (hs : Sl K w (.slice aq sn.length cq) (i64s sn))
    (l1 : bs.length ≤ 100) (l2 : ps.length ≤ 1000) (l3 : sn.length ≤ 1000) (hd : ∀ x ∈ bs, x.d.length ≤ 256) (cn : Int) (hin : ∃ x ∈ bs, x.i = cn) (hps : ps.Pairwise (· < ·)) :
    Calls Tryd.prog 48 #[.agg #[.int .i64 q, .slice ab bs.length cb, .slice ap ps.length cp, .slice aq sn.length cq], .int .i64 cn] w fun e w' => ∃ v k x, bs[k]? = some x ∧ x.i = cn ∧ e = .returned (.tuple #[v, .int .i64 0]) ∧ StO (fun b => w.heap.size ≤ b) q (bs.eraseIdx k) (ps.erase cn) sn v w' ∧ Keeps (fun _ => False) w w' := by
  have HIN := hid hin; have HPS := hid hps
  clear hin hps
  unfold StO
  obtain ⟨nr, hnr⟩ : ∃ n, (ps.erase cn).length = n := ⟨_, rfl⟩
  have HNR := hid hnr
  rw [hnr]
  clear hnr
  have HB := hid (hb.mono (K' := fun b => b < w.heap.size) (fun b h _ => h)); have HP := hid (hp.mono (K' := fun b => b < w.heap.size) (fun b h _ => h)); have HS := hid (hs.mono (K' := fun b => b < w.heap.size) (fun b h _ => h)); have HD := hid hd
  clear hb hp hs hd
  obtain ⟨n, hn⟩ : ∃ n, bs.length = n := ⟨_, rfl⟩
  obtain ⟨np, hnp⟩ : ∃ n, ps.length = n := ⟨_, rfl⟩
  obtain ⟨ns, hns⟩ : ∃ n, sn.length = n := ⟨_, rfl⟩
  have HN := hid hn; have HNP := hid hnp; have HNS := hid hns
  rw [hn] at HB l1 ⊢
  rw [hnp] at HP l2 ⊢
  rw [hns] at HS l3 ⊢
  clear hn hnp hns
  go_enter Tryd.func48, Tryd.ntmps48
  go_upto_region 1 with fail
  generalize hW : World.alloc (World.alloc w _) _ = W1
  have KS : Hd (Keeps (fun _ => False) w W1) := hid (by rw [← hW]; exact (Keeps.alloc (Keeps.alloc (Keeps.refl (fun _ => False) w) _) _))
  have HB' : Hd (Bus (fun b => b < w.heap.size) W1 (.slice ab n cb) bs) := hid (HB.out.keep KS.out (fun _ _ _ h => h))
  have HP' : Hd (Sl (fun b => b < w.heap.size) W1 (.slice ap np cp) (i64s ps)) := hid (HP.out.keep KS.out (fun _ _ _ h => h))
  have HS' : Hd (Sl (fun b => b < w.heap.size) W1 (.slice aq ns cq) (i64s sn)) := hid (HS.out.keep KS.out (fun _ _ _ h => h))
  have BA : Hd (Blk W1 w.heap.size #[(.int .i64 q), (.slice ab n cb), (.slice ap np cp), (.slice aq ns cq)] 44) := hid (by rw [← hW]; exact (blk_alloc (blk_new _ _ _) _))
  have BR : Hd (Blk W1 (w.heap.size + 1) #[(.int .i64 0), (.slice none 0 0), (.slice none 0 0), (.slice none 0 0)] 44) := hid (by rw [← hW]; exact (blk_new' _ _ _ _ (by simp)))
  clear HB HP HS
  have HB := HB'
  clear HB'
  have HP := HP'
  clear HP'
  have HS := HS'
  clear HS'
  have HK : Hd (Keeps (fun _ => False) w W1) := hid KS.out
  have z_W1 : w.heap.size + 2 ≤ W1.heap.size := by rw [← hW]; simp
  clear hW KS
  generalize hb_BR : w.heap.size + 1 = b_BR at *
  have o_BA_0 : W1.cell? ⟨w.heap.size, 0, none⟩ = some ((.int .i64 q)) := blk_cell BA.out 0
  have o_BA_1 : W1.cell? ⟨w.heap.size, 1, none⟩ = some ((.slice ab n cb)) := blk_cell BA.out 1
  have o_BA_2 : W1.cell? ⟨w.heap.size, 2, none⟩ = some ((.slice ap np cp)) := blk_cell BA.out 2
  have o_BA_3 : W1.cell? ⟨w.heap.size, 3, none⟩ = some ((.slice aq ns cq)) := blk_cell BA.out 3
  go_wp2_with fail
  have hcc := find_any (fun b => b < w.heap.size) bs q ab cb (.slice ap np cp) (.slice aq ns cq) cn W1 (by rw [HN.out]; exact HB.out) (by rw [HN.out]; omega)
  rw [HN.out] at hcc
  unfold FindPost at hcc
  refine hcc.mono ?_
  clear hcc
  rintro e W2 ⟨⟨k, y, rfl, hy1, hy2, hy3⟩ | ⟨rfl, hy1⟩, hk⟩
  rotate_left
  · exact absurd HIN.out (fun ⟨x, hx, hx2⟩ => hy1 x hx hx2)
  clear hy3
  have HY := hid (And.intro hy1 hy2)
  have hkn : k < n := by rw [← HN.out]; exact (List.getElem?_eq_some_iff.1 hy1).1
  have HNE : Hd ((bs.eraseIdx k).length = n - 1) := hid (by rw [List.length_eraseIdx, if_pos (by rw [HN.out]; exact hkn), HN.out])
  have q1 : ¬ ((k : Int) < 0) := by omega
  have hw : IntKind.i64.wrap ((k : Int) + 1) = (k : Int) + 1 := IntWalk.i64_in _ (by omega)
  clear hy1 hy2
  clear o_BA_0 o_BA_1 o_BA_2 o_BA_3
  have HB' : Hd (Bus (fun b => b < w.heap.size) W2 (.slice ab n cb) bs) := hid (HB.out.keep hk (fun _ _ _ h => h))
  have HP' : Hd (Sl (fun b => b < w.heap.size) W2 (.slice ap np cp) (i64s ps)) := hid (HP.out.keep hk (fun _ _ _ h => h))
  have HS' : Hd (Sl (fun b => b < w.heap.size) W2 (.slice aq ns cq) (i64s sn)) := hid (HS.out.keep hk (fun _ _ _ h => h))
  have BA' : Hd (Blk W2 w.heap.size #[(.int .i64 q), (.slice ab n cb), (.slice ap np cp), (.slice aq ns cq)] 44) := hid (blk_keep BA.out hk (fun h => h))
  have BR' : Hd (Blk W2 b_BR #[(.int .i64 0), (.slice none 0 0), (.slice none 0 0), (.slice none 0 0)] 44) := hid (blk_keep BR.out hk (fun h => h))
  clear HB HP HS BA BR
  have HB := HB'
  clear HB'
  have HP := HP'
  clear HP'
  have HS := HS'
  clear HS'
  have BA := BA'
  clear BA'
  have BR := BR'
  clear BR'
  have HK' : Hd (Keeps (fun _ => False) w W2) := hid (HK.out.trans hk)
  clear HK
  have HK := HK'
  clear HK'
  have z_W2 := hk.size
  clear hk
  have o_BA_0 : W2.cell? ⟨w.heap.size, 0, none⟩ = some ((.int .i64 q)) := blk_cell BA.out 0
  have o_BA_1 : W2.cell? ⟨w.heap.size, 1, none⟩ = some ((.slice ab n cb)) := blk_cell BA.out 1
  have o_BA_2 : W2.cell? ⟨w.heap.size, 2, none⟩ = some ((.slice ap np cp)) := blk_cell BA.out 2
  have o_BA_3 : W2.cell? ⟨w.heap.size, 3, none⟩ = some ((.slice aq ns cq)) := blk_cell BA.out 3
  go_wp2_with fail
  have hcc := copied_any (fun b => b < w.heap.size) q bs ps sn ab ap aq cb cp cq W2 (by rw [HN.out]; exact HB.out) (by rw [HNP.out]; exact HP.out) (by rw [HNS.out]; exact HS.out) (by rw [HN.out]; omega) (by rw [HNP.out]; omega) (by rw [HNS.out]; omega) (fun y hy => by have := HD.out y hy; omega)
  unfold CopR at hcc
  rw [HN.out, HNP.out, HNS.out] at hcc
  refine (hcc).mono ?_
  clear hcc
  rintro e W3 ⟨ab2, cb2, ap2, cp2, aq2, cq2, B1, rfl, hB1s, hB1b, hbp, hop, hoq, hdis, hk⟩
  have HBP := hid hbp; have HOP : Hd (Own (fun b => (Value.slice ap2 np cp2).ownBlock = some b ∧ W2.heap.size ≤ b ∧ b < B1) _ 3 1 (.slice ap2 np cp2) np (i64s ps)) := hid ⟨hop.1, fun k hk => ⟨hk, hop.2 k hk⟩⟩; have HOQ : Hd (Own (fun b => (Value.slice aq2 ns cq2).ownBlock = some b ∧ W2.heap.size ≤ b ∧ b < B1) _ 3 1 (.slice aq2 ns cq2) ns (i64s sn)) := hid ⟨hoq.1, fun k hk => ⟨hk, hoq.2 k hk⟩⟩; have HDIS := hid hdis
  clear hbp hop hoq hdis
  clear o_BA_0 o_BA_1 o_BA_2 o_BA_3
  have HB' : Hd (Bus (fun b => b < w.heap.size) W3 (.slice ab n cb) bs) := hid (HB.out.keep hk (fun _ _ _ h => h))
  have HP' : Hd (Sl (fun b => b < w.heap.size) W3 (.slice ap np cp) (i64s ps)) := hid (HP.out.keep hk (fun _ _ _ h => h))
  have HS' : Hd (Sl (fun b => b < w.heap.size) W3 (.slice aq ns cq) (i64s sn)) := hid (HS.out.keep hk (fun _ _ _ h => h))
  have BA' : Hd (Blk W3 w.heap.size #[(.int .i64 q), (.slice ab n cb), (.slice ap np cp), (.slice aq ns cq)] 44) := hid (blk_keep BA.out hk (fun h => h))
  have BR' : Hd (Blk W3 b_BR #[(.int .i64 0), (.slice none 0 0), (.slice none 0 0), (.slice none 0 0)] 44) := hid (blk_keep BR.out hk (fun h => h))
  clear HB HP HS BA BR
  have HB := HB'
  clear HB'
  have HP := HP'
  clear HP'
  have HS := HS'
  clear HS'
  have BA := BA'
  clear BA'
  have BR := BR'
  clear BR'
  have HK' : Hd (Keeps (fun _ => False) w W3) := hid (HK.out.trans hk)
  clear HK
  have HK := HK'
  clear HK'
  have z_W3 := hk.size
  clear hk
  have HPB : Hd (∀ b, (Value.slice ap2 np cp2).ownBlock = some b → b < B1) := hid (fun b hb => (HOP.out.2 b hb).2.2)
  have HQB : Hd (∀ b, (Value.slice aq2 ns cq2).ownBlock = some b → b < B1) := hid (fun b hb => (HOQ.out.2 b hb).2.2)
  have HBQ : Hd (BuQ (fun b => B1 ≤ b ∧ b < W3.heap.size) W3 (.slice ab2 n cb2) bs) := hid (HBP.out.buq (fun b hb h => ⟨h, by omega⟩) (fun b hb h => ⟨h, by omega⟩))
  clear HBP
  have o_BA_0 : W3.cell? ⟨w.heap.size, 0, none⟩ = some ((.int .i64 q)) := blk_cell BA.out 0
  have o_BA_1 : W3.cell? ⟨w.heap.size, 1, none⟩ = some ((.slice ab n cb)) := blk_cell BA.out 1
  have o_BA_2 : W3.cell? ⟨w.heap.size, 2, none⟩ = some ((.slice ap np cp)) := blk_cell BA.out 2
  have o_BA_3 : W3.cell? ⟨w.heap.size, 3, none⟩ = some ((.slice aq ns cq)) := blk_cell BA.out 3
  have f_BA_0 : W3.frozen? ⟨w.heap.size, 0, none⟩ = false := blk_free BA.out 0
  have f_BA_1 : W3.frozen? ⟨w.heap.size, 1, none⟩ = false := blk_free BA.out 1
  have f_BA_2 : W3.frozen? ⟨w.heap.size, 2, none⟩ = false := blk_free BA.out 2
  have f_BA_3 : W3.frozen? ⟨w.heap.size, 3, none⟩ = false := blk_free BA.out 3
  go_upto_region 5 with fail
  clear o_BA_0 o_BA_1 o_BA_2 o_BA_3 f_BA_0 f_BA_1 f_BA_2 f_BA_3
  generalize hW : World.alloc W3 _ = W4
  have KS : Hd (Keeps (fun _ => False) W3 W4) := hid (by rw [← hW]; exact (Keeps.alloc (Keeps.refl (fun _ => False) W3) _))
  have HB' : Hd (Bus (fun b => b < w.heap.size) W4 (.slice ab n cb) bs) := hid (HB.out.keep KS.out (fun _ _ _ h => h))
  have HP' : Hd (Sl (fun b => b < w.heap.size) W4 (.slice ap np cp) (i64s ps)) := hid (HP.out.keep KS.out (fun _ _ _ h => h))
  have HS' : Hd (Sl (fun b => b < w.heap.size) W4 (.slice aq ns cq) (i64s sn)) := hid (HS.out.keep KS.out (fun _ _ _ h => h))
  have BA' : Hd (Blk W4 w.heap.size #[(.int .i64 q), (.slice ab n cb), (.slice ap np cp), (.slice aq ns cq)] 44) := hid (by rw [← hW]; exact (blk_alloc BA.out _))
  have BR' : Hd (Blk W4 b_BR #[(.int .i64 0), (.slice none 0 0), (.slice none 0 0), (.slice none 0 0)] 44) := hid (by rw [← hW]; exact (blk_alloc BR.out _))
  have HOP' : Hd (Own (fun b => (Value.slice ap2 np cp2).ownBlock = some b ∧ W2.heap.size ≤ b ∧ b < B1) W4 3 1 (.slice ap2 np cp2) np (i64s ps)) := hid (HOP.out.keep KS.out (fun _ _ _ h => h))
  have HOQ' : Hd (Own (fun b => (Value.slice aq2 ns cq2).ownBlock = some b ∧ W2.heap.size ≤ b ∧ b < B1) W4 3 1 (.slice aq2 ns cq2) ns (i64s sn)) := hid (HOQ.out.keep KS.out (fun _ _ _ h => h))
  have HBQ' : Hd (BuQ (fun b => B1 ≤ b ∧ b < W3.heap.size) W4 (.slice ab2 n cb2) bs) := hid (HBQ.out.keep KS.out (fun _ _ _ h => h))
  have BO : Hd (Blk W4 W3.heap.size #[(.int .i64 q), (.slice ab2 n cb2), (.slice ap2 np cp2), (.slice aq2 ns cq2)] 44) := hid (by rw [← hW]; exact (blk_new _ _ _))
  clear HB HP HS BA BR HOP HOQ HBQ
  have HB := HB'
  clear HB'
  have HP := HP'
  clear HP'
  have HS := HS'
  clear HS'
  have BA := BA'
  clear BA'
  have BR := BR'
  clear BR'
  have HOP := HOP'
  clear HOP'
  have HOQ := HOQ'
  clear HOQ'
  have HBQ := HBQ'
  clear HBQ'
  have HK' : Hd (Keeps (fun _ => False) w W4) := hid (HK.out.trans KS.out)
  clear HK
  have HK := HK'
  clear HK'
  have z_W4 : W3.heap.size + 1 ≤ W4.heap.size := by rw [← hW]; simp
  clear hW KS
  generalize hbO : W3.heap.size = b_O at *
  clear hbO
  have HOQ2 : Hd (Own (fun b => (Value.slice aq2 ns cq2).ownBlock = some b ∧ W2.heap.size ≤ b ∧ b < b_O) W4 3 1 (.slice aq2 ns cq2) ns (i64s sn)) := hid (HOQ.out.mono (fun b _ h => ⟨h.1, h.2.1, by omega⟩))
  clear HOQ
  have HOP2 : Hd (Own (fun b => (Value.slice ap2 np cp2).ownBlock = some b ∧ W2.heap.size ≤ b ∧ b < b_O) W4 3 1 (.slice ap2 np cp2) np (i64s ps)) := hid (HOP.out.mono (fun b _ h => ⟨h.1, h.2.1, by omega⟩))
  clear HOP
  have o_BO_1 : W4.cell? ⟨b_O, 1, none⟩ = some ((.slice ab2 n cb2)) := blk_cell BO.out 1
  have HKO : Hd (∀ b, (Value.slice ab2 n cb2).ownBlock = some b → B1 ≤ b ∧ b < b_O) := hid (fun b hb => by obtain ⟨xs, hO, _⟩ := HBQ.out; exact (hO.2 b hb).2)
  have HPO : Hd (∀ b, (Value.slice ap2 np cp2).ownBlock = some b → W2.heap.size ≤ b ∧ b < B1) := hid (fun b hb => by obtain ⟨h1, h2⟩ := HOP2.out; have h3 := h2 b hb; have h4 := HPB.out b hb; omega)
  go_wp2_with fail
  have hcc := DeleteB_any _ ab2 bs cb2 k W4 (by rw [HN.out]; exact HBQ.out) (by rw [HN.out]; exact hkn) (by rw [HN.out]; omega)
  rw [HN.out] at hcc
  refine hcc.mono ?_
  clear hcc
  rintro e W5 ⟨a7, c7, rfl, hbs, hk⟩
  have HBE := hid hbs
  clear hbs HBQ
  clear o_BO_1
  have HB' : Hd (Bus (fun b => b < w.heap.size) W5 (.slice ab n cb) bs) := hid (HB.out.keep hk (fun b _ h1 h2 => by have := HKO.out b h2; omega))
  have HP' : Hd (Sl (fun b => b < w.heap.size) W5 (.slice ap np cp) (i64s ps)) := hid (HP.out.keep hk (fun b _ h1 h2 => by have := HKO.out b h2; omega))
  have HS' : Hd (Sl (fun b => b < w.heap.size) W5 (.slice aq ns cq) (i64s sn)) := hid (HS.out.keep hk (fun b _ h1 h2 => by have := HKO.out b h2; omega))
  have BA' : Hd (Blk W5 w.heap.size #[(.int .i64 q), (.slice ab n cb), (.slice ap np cp), (.slice aq ns cq)] 44) := hid (blk_keep BA.out hk (fun h => by have := HKO.out _ h; omega))
  have BR' : Hd (Blk W5 b_BR #[(.int .i64 0), (.slice none 0 0), (.slice none 0 0), (.slice none 0 0)] 44) := hid (blk_keep BR.out hk (fun h => by have := HKO.out _ h; omega))
  have BO' : Hd (Blk W5 b_O #[(.int .i64 q), (.slice ab2 n cb2), (.slice ap2 np cp2), (.slice aq2 ns cq2)] 44) := hid (blk_keep BO.out hk (fun h => by have := HKO.out _ h; omega))
  have HOQ2' : Hd (Own (fun b => (Value.slice aq2 ns cq2).ownBlock = some b ∧ W2.heap.size ≤ b ∧ b < b_O) W5 3 1 (.slice aq2 ns cq2) ns (i64s sn)) := hid (HOQ2.out.keep hk (fun b _ h1 h2 => by have := HKO.out b h2; have := HQB.out b h1.1; omega))
  have HOP2' : Hd (Own (fun b => (Value.slice ap2 np cp2).ownBlock = some b ∧ W2.heap.size ≤ b ∧ b < b_O) W5 3 1 (.slice ap2 np cp2) np (i64s ps)) := hid (HOP2.out.keep hk (fun b _ h1 h2 => by have := HKO.out b h2; have := HPB.out b h1.1; omega))
  clear HB HP HS BA BR BO HOQ2 HOP2
  have HB := HB'
  clear HB'
  have HP := HP'
  clear HP'
  have HS := HS'
  clear HS'
  have BA := BA'
  clear BA'
  have BR := BR'
  clear BR'
  have BO := BO'
  clear BO'
  have HOQ2 := HOQ2'
  clear HOQ2'
  have HOP2 := HOP2'
  clear HOP2'
  have HK' : Hd (Keeps (fun _ => False) w W5) := hid (HK.out.trans' hk (fun i hi h => by have := HKO.out i h; omega))
  clear HK
  have HK := HK'
  clear HK'
  have z_W5 := hk.size
  clear hk
  have o_BO_1 : W5.cell? ⟨b_O, 1, none⟩ = some ((.slice ab2 n cb2)) := blk_cell BO.out 1
  have f_BO_1 : W5.frozen? ⟨b_O, 1, none⟩ = false := blk_free BO.out 1
  go_upto_region 6 with fail
  clear o_BO_1 f_BO_1
  generalize hW : World.setCell W5 _ _ = W6
  have KS : Hd (Keeps (fun b => b = b_O) W5 W6) := hid (by rw [← hW]; exact (Keeps.setCell (S := fun b => b = b_O) (p := ⟨b_O, 1, none⟩) (Keeps.refl (fun b => b = b_O) W5) (.inl rfl) _))
  have HB' : Hd (Bus (fun b => b < w.heap.size) W6 (.slice ab n cb) bs) := hid (HB.out.keep KS.out (fun b _ h1 h2 => by omega))
  have HP' : Hd (Sl (fun b => b < w.heap.size) W6 (.slice ap np cp) (i64s ps)) := hid (HP.out.keep KS.out (fun b _ h1 h2 => by omega))
  have HS' : Hd (Sl (fun b => b < w.heap.size) W6 (.slice aq ns cq) (i64s sn)) := hid (HS.out.keep KS.out (fun b _ h1 h2 => by omega))
  have BA' : Hd (Blk W6 w.heap.size #[(.int .i64 q), (.slice ab n cb), (.slice ap np cp), (.slice aq ns cq)] 44) := hid (by rw [← hW]; exact (blk_other BA.out (by omega) _ _))
  have BR' : Hd (Blk W6 b_BR #[(.int .i64 0), (.slice none 0 0), (.slice none 0 0), (.slice none 0 0)] 44) := hid (by rw [← hW]; exact (blk_other BR.out (by omega) _ _))
  have BO' : Hd (Blk W6 b_O #[(.int .i64 q), (.slice a7 (n - 1) c7), (.slice ap2 np cp2), (.slice aq2 ns cq2)] 44) := hid (by rw [← hW]; exact (blk_set BO.out 1 _))
  have HOQ2' : Hd (Own (fun b => (Value.slice aq2 ns cq2).ownBlock = some b ∧ W2.heap.size ≤ b ∧ b < b_O) W6 3 1 (.slice aq2 ns cq2) ns (i64s sn)) := hid (HOQ2.out.keep KS.out (fun b _ h1 h2 => by omega))
  have HOP2' : Hd (Own (fun b => (Value.slice ap2 np cp2).ownBlock = some b ∧ W2.heap.size ≤ b ∧ b < b_O) W6 3 1 (.slice ap2 np cp2) np (i64s ps)) := hid (HOP2.out.keep KS.out (fun b _ h1 h2 => by omega))
  have HBE' : Hd (Bus (fun b => B1 ≤ b ∧ b < b_O) W6 (.slice a7 (n - 1) c7) (bs.eraseIdx k)) := hid (HBE.out.keep KS.out (fun b _ h1 h2 => by omega))
  clear HB HP HS BA BR BO HOQ2 HOP2 HBE
  have HB := HB'
  clear HB'
  have HP := HP'
  clear HP'
  have HS := HS'
  clear HS'
  have BA := BA'
  clear BA'
  have BR := BR'
  clear BR'
  have BO := BO'
  clear BO'
  have HOQ2 := HOQ2'
  clear HOQ2'
  have HOP2 := HOP2'
  clear HOP2'
  have HBE := HBE'
  clear HBE'
  have HK' : Hd (Keeps (fun _ => False) w W6) := hid (HK.out.trans' KS.out (fun i hi h => by omega))
  clear HK
  have HK := HK'
  clear HK'
  have z_W6 : W5.heap.size + 0 ≤ W6.heap.size := by rw [← hW]; simp
  clear hW KS
  have o_BO_2 : W6.cell? ⟨b_O, 2, none⟩ = some ((.slice ap2 np cp2)) := blk_cell BO.out 2
  go_wp2_with fail
  have hcc := remove_any (fun b => (Value.slice ap2 np cp2).ownBlock = some b) (.slice ap2 np cp2) ps cn W6 (by rw [HNP.out]; exact ⟨HOP2.out.1, fun _ h => h⟩) (by rw [HNP.out]; omega) HPS.out
  rw [HNR.out] at hcc
  refine hcc.mono ?_
  clear hcc
  rintro e W7 ⟨a8, c8, rfl, hsl, hk⟩
  have HSL := hid (hsl.mono (K' := fun b => W2.heap.size ≤ b ∧ b ≠ b_O) (fun b _ h => by have := HPO.out b h; omega))
  clear hsl HOP2
  clear o_BO_2
  have HB' : Hd (Bus (fun b => b < w.heap.size) W7 (.slice ab n cb) bs) := hid (HB.out.keep hk (fun b _ h1 h2 => by have := HPO.out b h2; omega))
  have HP' : Hd (Sl (fun b => b < w.heap.size) W7 (.slice ap np cp) (i64s ps)) := hid (HP.out.keep hk (fun b _ h1 h2 => by have := HPO.out b h2; omega))
  have HS' : Hd (Sl (fun b => b < w.heap.size) W7 (.slice aq ns cq) (i64s sn)) := hid (HS.out.keep hk (fun b _ h1 h2 => by have := HPO.out b h2; omega))
  have BA' : Hd (Blk W7 w.heap.size #[(.int .i64 q), (.slice ab n cb), (.slice ap np cp), (.slice aq ns cq)] 44) := hid (blk_keep BA.out hk (fun h => by have := HPO.out _ h; omega))
  have BR' : Hd (Blk W7 b_BR #[(.int .i64 0), (.slice none 0 0), (.slice none 0 0), (.slice none 0 0)] 44) := hid (blk_keep BR.out hk (fun h => by have := HPO.out _ h; omega))
  have BO' : Hd (Blk W7 b_O #[(.int .i64 q), (.slice a7 (n - 1) c7), (.slice ap2 np cp2), (.slice aq2 ns cq2)] 44) := hid (blk_keep BO.out hk (fun h => by have := HPO.out _ h; omega))
  have HOQ2' : Hd (Own (fun b => (Value.slice aq2 ns cq2).ownBlock = some b ∧ W2.heap.size ≤ b ∧ b < b_O) W7 3 1 (.slice aq2 ns cq2) ns (i64s sn)) := hid (HOQ2.out.keep hk (fun b hb h1 h2 => HDIS.out b h2 h1.1))
  have HBE' : Hd (Bus (fun b => B1 ≤ b ∧ b < b_O) W7 (.slice a7 (n - 1) c7) (bs.eraseIdx k)) := hid (HBE.out.keep hk (fun b _ h1 h2 => by have := HPO.out b h2; omega))
  clear HB HP HS BA BR BO HOQ2 HBE
  have HB := HB'
  clear HB'
  have HP := HP'
  clear HP'
  have HS := HS'
  clear HS'
  have BA := BA'
  clear BA'
  have BR := BR'
  clear BR'
  have BO := BO'
  clear BO'
  have HOQ2 := HOQ2'
  clear HOQ2'
  have HBE := HBE'
  clear HBE'
  have HK' : Hd (Keeps (fun _ => False) w W7) := hid (HK.out.trans' hk (fun i hi h => by have := HPO.out i h; omega))
  clear HK
  have HK := HK'
  clear HK'
  have z_W7 := hk.size
  clear hk
  have o_BO_2 : W7.cell? ⟨b_O, 2, none⟩ = some ((.slice ap2 np cp2)) := blk_cell BO.out 2
  have f_BO_2 : W7.frozen? ⟨b_O, 2, none⟩ = false := blk_free BO.out 2
  go_upto_region 7 with fail
  clear o_BO_2 f_BO_2
  generalize hW : World.setCell W7 _ _ = W8
  have KS : Hd (Keeps (fun b => b = b_O) W7 W8) := hid (by rw [← hW]; exact (Keeps.setCell (S := fun b => b = b_O) (p := ⟨b_O, 2, none⟩) (Keeps.refl (fun b => b = b_O) W7) (.inl rfl) _))
  have HB' : Hd (Bus (fun b => b < w.heap.size) W8 (.slice ab n cb) bs) := hid (HB.out.keep KS.out (fun b _ h1 h2 => by omega))
  have HP' : Hd (Sl (fun b => b < w.heap.size) W8 (.slice ap np cp) (i64s ps)) := hid (HP.out.keep KS.out (fun b _ h1 h2 => by omega))
  have HS' : Hd (Sl (fun b => b < w.heap.size) W8 (.slice aq ns cq) (i64s sn)) := hid (HS.out.keep KS.out (fun b _ h1 h2 => by omega))
  have BA' : Hd (Blk W8 w.heap.size #[(.int .i64 q), (.slice ab n cb), (.slice ap np cp), (.slice aq ns cq)] 44) := hid (by rw [← hW]; exact (blk_other BA.out (by omega) _ _))
  have BR' : Hd (Blk W8 b_BR #[(.int .i64 0), (.slice none 0 0), (.slice none 0 0), (.slice none 0 0)] 44) := hid (by rw [← hW]; exact (blk_other BR.out (by omega) _ _))
  have BO' : Hd (Blk W8 b_O #[(.int .i64 q), (.slice a7 (n - 1) c7), (.slice a8 nr c8), (.slice aq2 ns cq2)] 44) := hid (by rw [← hW]; exact (blk_set BO.out 2 _))
  have HOQ2' : Hd (Own (fun b => (Value.slice aq2 ns cq2).ownBlock = some b ∧ W2.heap.size ≤ b ∧ b < b_O) W8 3 1 (.slice aq2 ns cq2) ns (i64s sn)) := hid (HOQ2.out.keep KS.out (fun b _ h1 h2 => by omega))
  have HBE' : Hd (Bus (fun b => B1 ≤ b ∧ b < b_O) W8 (.slice a7 (n - 1) c7) (bs.eraseIdx k)) := hid (HBE.out.keep KS.out (fun b _ h1 h2 => by omega))
  have HSL' : Hd (Sl (fun b => W2.heap.size ≤ b ∧ b ≠ b_O) W8 (.slice a8 nr c8) (i64s (ps.erase cn))) := hid (HSL.out.keep KS.out (fun b _ h1 h2 => by omega))
  clear HB HP HS BA BR BO HOQ2 HBE HSL
  have HB := HB'
  clear HB'
  have HP := HP'
  clear HP'
  have HS := HS'
  clear HS'
  have BA := BA'
  clear BA'
  have BR := BR'
  clear BR'
  have BO := BO'
  clear BO'
  have HOQ2 := HOQ2'
  clear HOQ2'
  have HBE := HBE'
  clear HBE'
  have HSL := HSL'
  clear HSL'
  have HK' : Hd (Keeps (fun _ => False) w W8) := hid (HK.out.trans' KS.out (fun i hi h => by omega))
  clear HK
  have HK := HK'
  clear HK'
  have z_W8 : W7.heap.size + 0 ≤ W8.heap.size := by rw [← hW]; simp
  clear hW KS
  have o_BO_0 : W8.cell? ⟨b_O, 0, none⟩ = some ((.int .i64 q)) := blk_cell BO.out 0
  have o_BO_1 : W8.cell? ⟨b_O, 1, none⟩ = some ((.slice a7 (n - 1) c7)) := blk_cell BO.out 1
  have o_BO_2 : W8.cell? ⟨b_O, 2, none⟩ = some ((.slice a8 nr c8)) := blk_cell BO.out 2
  have o_BO_3 : W8.cell? ⟨b_O, 3, none⟩ = some ((.slice aq2 ns cq2)) := blk_cell BO.out 3
  have o_BR_0 : W8.cell? ⟨b_BR, 0, none⟩ = some ((.int .i64 0)) := blk_cell BR.out 0
  have o_BR_1 : W8.cell? ⟨b_BR, 1, none⟩ = some ((.slice none 0 0)) := blk_cell BR.out 1
  have o_BR_2 : W8.cell? ⟨b_BR, 2, none⟩ = some ((.slice none 0 0)) := blk_cell BR.out 2
  have o_BR_3 : W8.cell? ⟨b_BR, 3, none⟩ = some ((.slice none 0 0)) := blk_cell BR.out 3
  have f_BR_0 : W8.frozen? ⟨b_BR, 0, none⟩ = false := blk_free BR.out 0
  have f_BR_1 : W8.frozen? ⟨b_BR, 1, none⟩ = false := blk_free BR.out 1
  have f_BR_2 : W8.frozen? ⟨b_BR, 2, none⟩ = false := blk_free BR.out 2
  have f_BR_3 : W8.frozen? ⟨b_BR, 3, none⟩ = false := blk_free BR.out 3
  go_wp2
  clear o_BO_0 o_BO_1 o_BO_2 o_BO_3 o_BR_0 o_BR_1 o_BR_2 o_BR_3 f_BR_0 f_BR_1 f_BR_2 f_BR_3
  obtain ⟨HV2, B3⟩ := fin4 HK.out (show w.heap.size ≤ b_BR by omega) BR.out (.int .i64 q) (.slice a7 (n - 1) c7) (.slice a8 nr c8) (.slice aq2 ns cq2)
  have r0 := blk_cell B3 0
  have r1 := blk_cell B3 1
  have r2 := blk_cell B3 2
  have r3 := blk_cell B3 3
  have kf := keep4 W8 b_BR (.int .i64 q) (.slice a7 (n - 1) c7) (.slice a8 nr c8) (.slice aq2 ns cq2)
  refine bodyPost_ret (v := .tuple #[.agg #[.int .i64 q, .slice a7 (n - 1) c7, .slice a8 nr c8, .slice aq2 ns cq2], .int .i64 0]) (by simp [results, Tryd.results48, go_sem, r0, r1, r2, r3]) rfl ?_
  exact ⟨_, k, y, HY.out.1, HY.out.2, rfl, ⟨a7, c7, a8, c8, aq2, cq2, by rw [HNE.out], by rw [HNE.out]; exact (HBE.out.keep kf (fun b h1 h2 h3 => by omega)).mono (fun b _ h => by omega), (HSL.out.keep kf (fun b h1 h2 h3 => by omega)).mono (fun b _ h => by omega), ((row_sl HOQ2.out.row (by rw [i64s_length, HNS.out])).keep kf (fun b h1 h2 h3 => by omega)).mono (fun b _ h => by omega)⟩, HV2⟩
end Go.Proofs.YtgfekgceeigdiaaDoor
namespace Go.Proofs.YtgfekgceeigdiaaDoor
open Go.RowKit
attribute [local go_sem ↓] Go.wp_at_zero Go.wp_at_succ
set_option maxRecDepth 100000 in set_option maxHeartbeats 1000000 in
theorem Accept_dup (K : Nat → Prop) (q : Int) (bs : List Bu) (ps sn : List Int) (x : Bu) (ab ap aq ad : Option Addr) (cb cp cq cd : Nat) (w : World) (hb : Bus K w (.slice ab bs.length cb) bs) (hp : Sl K w (.slice ap ps.length cp) (i64s ps)) (hs : Sl K w (.slice aq sn.length cq) (i64s sn)) (hx : Sl K w (.slice ad x.d.length cd) (u8s x.d))
    (l1 : bs.length ≤ 63) (l2 : ps.length ≤ 1000) (l3 : sn.length ≤ 1000) (hd : ∀ x ∈ bs, x.d.length ≤ 256) (hdx : x.d.length ≤ 256) (hss : sn.Pairwise (· < ·)) (hi : x.i ∈ sn) :
    Calls Tryd.prog 52 #[.agg #[.int .i64 q, .slice ab bs.length cb, .slice ap ps.length cp, .slice aq sn.length cq], .agg #[.int .i64 x.i, .int .i64 x.f, .int .i64 x.t, .int .i64 x.g, .int .i64 x.o, .int .i64 x.a, .int .u32 (x.s : Int), .slice ad x.d.length cd]] w fun e w' => ∃ v, e = .returned (.tuple #[v, .bool true, .int .i64 0]) ∧ StO (fun b => w.heap.size ≤ b) q bs ps sn v w' ∧ Keeps (fun _ => False) w w' := by
  have HI := hid hi
  clear hi
  unfold StO
  have HB := hid (hb.mono (K' := fun b => b < w.heap.size) (fun b h _ => h)); have HP := hid (hp.mono (K' := fun b => b < w.heap.size) (fun b h _ => h)); have HS := hid (hs.mono (K' := fun b => b < w.heap.size) (fun b h _ => h)); have HX := hid (hx.mono (K' := fun b => b < w.heap.size) (fun b h _ => h)); have HD := hid hd; have HSS := hid hss
  clear hb hp hs hd hx hss
  obtain ⟨n, hn⟩ : ∃ n, bs.length = n := ⟨_, rfl⟩
  obtain ⟨np, hnp⟩ : ∃ n, ps.length = n := ⟨_, rfl⟩
  obtain ⟨ns, hns⟩ : ∃ n, sn.length = n := ⟨_, rfl⟩
  obtain ⟨dn, hdn⟩ : ∃ n, x.d.length = n := ⟨_, rfl⟩
  have HN := hid hn; have HNP := hid hnp; have HNS := hid hns; have HDN := hid hdn
  rw [hn] at HB l1 ⊢
  rw [hnp] at HP l2 ⊢
  rw [hns] at HS l3 ⊢
  rw [hdn] at HX hdx ⊢
  clear hn hnp hns hdn
  go_enter Tryd.func52, Tryd.ntmps52
  go_upto_region 1 with fail
  generalize hW : World.alloc (World.alloc (World.alloc w _) _) _ = W1
  have KS : Hd (Keeps (fun _ => False) w W1) := hid (by rw [← hW]; exact (Keeps.alloc (Keeps.alloc (Keeps.alloc (Keeps.refl (fun _ => False) w) _) _) _))
  have HB' : Hd (Bus (fun b => b < w.heap.size) W1 (.slice ab n cb) bs) := hid (HB.out.keep KS.out (fun _ _ _ h => h))
  have HP' : Hd (Sl (fun b => b < w.heap.size) W1 (.slice ap np cp) (i64s ps)) := hid (HP.out.keep KS.out (fun _ _ _ h => h))
  have HS' : Hd (Sl (fun b => b < w.heap.size) W1 (.slice aq ns cq) (i64s sn)) := hid (HS.out.keep KS.out (fun _ _ _ h => h))
  have HX' : Hd (Sl (fun b => b < w.heap.size) W1 (.slice ad dn cd) (u8s x.d)) := hid (HX.out.keep KS.out (fun _ _ _ h => h))
  have BA : Hd (Blk W1 w.heap.size #[(.int .i64 q), (.slice ab n cb), (.slice ap np cp), (.slice aq ns cq)] 44) := hid (by rw [← hW]; exact (blk_alloc (blk_alloc (blk_new _ _ _) _) _))
  have BB : Hd (Blk W1 (w.heap.size + 1) #[(.int .i64 x.i), (.int .i64 x.f), (.int .i64 x.t), (.int .i64 x.g), (.int .i64 x.o), (.int .i64 x.a), (.int .u32 (x.s : Int)), (.slice ad dn cd)] 59) := hid (by rw [← hW]; exact (blk_alloc (blk_new' _ _ _ _ (by simp)) _))
  have BR : Hd (Blk W1 (w.heap.size + 1 + 1) #[(.int .i64 0), (.slice none 0 0), (.slice none 0 0), (.slice none 0 0)] 44) := hid (by rw [← hW]; exact (blk_new' _ _ _ _ (by simp)))
  clear HB HP HS HX
  have HB := HB'
  clear HB'
  have HP := HP'
  clear HP'
  have HS := HS'
  clear HS'
  have HX := HX'
  clear HX'
  have HK : Hd (Keeps (fun _ => False) w W1) := hid KS.out
  have z_W1 : w.heap.size + 3 ≤ W1.heap.size := by rw [← hW]; simp
  clear hW KS
  generalize hb_BR : w.heap.size + 1 + 1 = b_BR at *
  generalize hb_BB : w.heap.size + 1 = b_BB at *
  have o_BA_0 : W1.cell? ⟨w.heap.size, 0, none⟩ = some ((.int .i64 q)) := blk_cell BA.out 0
  have o_BA_1 : W1.cell? ⟨w.heap.size, 1, none⟩ = some ((.slice ab n cb)) := blk_cell BA.out 1
  have o_BA_2 : W1.cell? ⟨w.heap.size, 2, none⟩ = some ((.slice ap np cp)) := blk_cell BA.out 2
  have o_BA_3 : W1.cell? ⟨w.heap.size, 3, none⟩ = some ((.slice aq ns cq)) := blk_cell BA.out 3
  have o_BB_0 : W1.cell? ⟨b_BB, 0, none⟩ = some ((.int .i64 x.i)) := blk_cell BB.out 0
  have o_BB_1 : W1.cell? ⟨b_BB, 1, none⟩ = some ((.int .i64 x.f)) := blk_cell BB.out 1
  have o_BB_2 : W1.cell? ⟨b_BB, 2, none⟩ = some ((.int .i64 x.t)) := blk_cell BB.out 2
  have o_BB_3 : W1.cell? ⟨b_BB, 3, none⟩ = some ((.int .i64 x.g)) := blk_cell BB.out 3
  have o_BB_4 : W1.cell? ⟨b_BB, 4, none⟩ = some ((.int .i64 x.o)) := blk_cell BB.out 4
  have o_BB_5 : W1.cell? ⟨b_BB, 5, none⟩ = some ((.int .i64 x.a)) := blk_cell BB.out 5
  have o_BB_6 : W1.cell? ⟨b_BB, 6, none⟩ = some ((.int .u32 (x.s : Int))) := blk_cell BB.out 6
  have o_BB_7 : W1.cell? ⟨b_BB, 7, none⟩ = some ((.slice ad dn cd)) := blk_cell BB.out 7
  go_wp2_with fail
  have hcc := Create_dup (fun b => b < w.heap.size) q bs ps sn x ab ap aq ad cb cp cq cd W1 (by rw [HN.out]; exact HB.out) (by rw [HNP.out]; exact HP.out) (by rw [HNS.out]; exact HS.out) (by rw [HDN.out]; exact HX.out) (by rw [HN.out]; omega) (by rw [HNP.out]; omega) (by rw [HNS.out]; omega) (fun y hy => HD.out y hy) (by rw [HDN.out]; omega) HSS.out HI.out
  rw [HN.out, HNP.out, HNS.out, HDN.out] at hcc
  refine (hcc).mono ?_
  clear hcc
  rintro e W2 ⟨rfl, hk⟩
  clear o_BA_0 o_BA_1 o_BA_2 o_BA_3 o_BB_0 o_BB_1 o_BB_2 o_BB_3 o_BB_4 o_BB_5 o_BB_6 o_BB_7
  have HB' : Hd (Bus (fun b => b < w.heap.size) W2 (.slice ab n cb) bs) := hid (HB.out.keep hk (fun _ _ _ h => h))
  have HP' : Hd (Sl (fun b => b < w.heap.size) W2 (.slice ap np cp) (i64s ps)) := hid (HP.out.keep hk (fun _ _ _ h => h))
  have HS' : Hd (Sl (fun b => b < w.heap.size) W2 (.slice aq ns cq) (i64s sn)) := hid (HS.out.keep hk (fun _ _ _ h => h))
  have HX' : Hd (Sl (fun b => b < w.heap.size) W2 (.slice ad dn cd) (u8s x.d)) := hid (HX.out.keep hk (fun _ _ _ h => h))
  have BA' : Hd (Blk W2 w.heap.size #[(.int .i64 q), (.slice ab n cb), (.slice ap np cp), (.slice aq ns cq)] 44) := hid (blk_keep BA.out hk (fun h => h))
  have BB' : Hd (Blk W2 b_BB #[(.int .i64 x.i), (.int .i64 x.f), (.int .i64 x.t), (.int .i64 x.g), (.int .i64 x.o), (.int .i64 x.a), (.int .u32 (x.s : Int)), (.slice ad dn cd)] 59) := hid (blk_keep BB.out hk (fun h => h))
  have BR' : Hd (Blk W2 b_BR #[(.int .i64 0), (.slice none 0 0), (.slice none 0 0), (.slice none 0 0)] 44) := hid (blk_keep BR.out hk (fun h => h))
  clear HB HP HS HX BA BB BR
  have HB := HB'
  clear HB'
  have HP := HP'
  clear HP'
  have HS := HS'
  clear HS'
  have HX := HX'
  clear HX'
  have BA := BA'
  clear BA'
  have BB := BB'
  clear BB'
  have BR := BR'
  clear BR'
  have HK' : Hd (Keeps (fun _ => False) w W2) := hid (HK.out.trans hk)
  clear HK
  have HK := HK'
  clear HK'
  have z_W2 := hk.size
  clear hk
  go_upto_region 2 with fail
  generalize hW : World.alloc W2 _ = W3
  have KS : Hd (Keeps (fun _ => False) W2 W3) := hid (by rw [← hW]; exact (Keeps.alloc (Keeps.refl (fun _ => False) W2) _))
  have HB' : Hd (Bus (fun b => b < w.heap.size) W3 (.slice ab n cb) bs) := hid (HB.out.keep KS.out (fun _ _ _ h => h))
  have HP' : Hd (Sl (fun b => b < w.heap.size) W3 (.slice ap np cp) (i64s ps)) := hid (HP.out.keep KS.out (fun _ _ _ h => h))
  have HS' : Hd (Sl (fun b => b < w.heap.size) W3 (.slice aq ns cq) (i64s sn)) := hid (HS.out.keep KS.out (fun _ _ _ h => h))
  have HX' : Hd (Sl (fun b => b < w.heap.size) W3 (.slice ad dn cd) (u8s x.d)) := hid (HX.out.keep KS.out (fun _ _ _ h => h))
  have BA' : Hd (Blk W3 w.heap.size #[(.int .i64 q), (.slice ab n cb), (.slice ap np cp), (.slice aq ns cq)] 44) := hid (by rw [← hW]; exact (blk_alloc BA.out _))
  have BB' : Hd (Blk W3 b_BB #[(.int .i64 x.i), (.int .i64 x.f), (.int .i64 x.t), (.int .i64 x.g), (.int .i64 x.o), (.int .i64 x.a), (.int .u32 (x.s : Int)), (.slice ad dn cd)] 59) := hid (by rw [← hW]; exact (blk_alloc BB.out _))
  have BR' : Hd (Blk W3 b_BR #[(.int .i64 0), (.slice none 0 0), (.slice none 0 0), (.slice none 0 0)] 44) := hid (by rw [← hW]; exact (blk_alloc BR.out _))
  have BO : Hd (Blk W3 W2.heap.size #[(.int .i64 0), (.slice none 0 0), (.slice none 0 0), (.slice none 0 0)] 44) := hid (by rw [← hW]; exact (blk_new _ _ _))
  clear HB HP HS HX BA BB BR
  have HB := HB'
  clear HB'
  have HP := HP'
  clear HP'
  have HS := HS'
  clear HS'
  have HX := HX'
  clear HX'
  have BA := BA'
  clear BA'
  have BB := BB'
  clear BB'
  have BR := BR'
  clear BR'
  have HK' : Hd (Keeps (fun _ => False) w W3) := hid (HK.out.trans KS.out)
  clear HK
  have HK := HK'
  clear HK'
  have z_W3 : W2.heap.size + 1 ≤ W3.heap.size := by rw [← hW]; simp
  clear hW KS
  have o_BA_0 : W3.cell? ⟨w.heap.size, 0, none⟩ = some ((.int .i64 q)) := blk_cell BA.out 0
  have o_BA_1 : W3.cell? ⟨w.heap.size, 1, none⟩ = some ((.slice ab n cb)) := blk_cell BA.out 1
  have o_BA_2 : W3.cell? ⟨w.heap.size, 2, none⟩ = some ((.slice ap np cp)) := blk_cell BA.out 2
  have o_BA_3 : W3.cell? ⟨w.heap.size, 3, none⟩ = some ((.slice aq ns cq)) := blk_cell BA.out 3
  go_wp2_with fail
  have hcc := copied_any (fun b => b < w.heap.size) q bs ps sn ab ap aq cb cp cq W3 (by rw [HN.out]; exact HB.out) (by rw [HNP.out]; exact HP.out) (by rw [HNS.out]; exact HS.out) (by rw [HN.out]; omega) (by rw [HNP.out]; omega) (by rw [HNS.out]; omega) (fun y hy => by have := HD.out y hy; omega)
  unfold CopR at hcc
  rw [HN.out, HNP.out, HNS.out] at hcc
  refine (hcc).mono ?_
  clear hcc
  rintro e W4 ⟨ab2, cb2, ap2, cp2, aq2, cq2, B1, rfl, hB1s, hB1b, hbp, hop, hoq, hdis, hk⟩
  have HBP := hid hbp; have HOP : Hd (Own (fun b => (Value.slice ap2 np cp2).ownBlock = some b ∧ W3.heap.size ≤ b ∧ b < B1) _ 3 1 (.slice ap2 np cp2) np (i64s ps)) := hid ⟨hop.1, fun k hk => ⟨hk, hop.2 k hk⟩⟩; have HOQ : Hd (Own (fun b => (Value.slice aq2 ns cq2).ownBlock = some b ∧ W3.heap.size ≤ b ∧ b < B1) _ 3 1 (.slice aq2 ns cq2) ns (i64s sn)) := hid ⟨hoq.1, fun k hk => ⟨hk, hoq.2 k hk⟩⟩; have HDIS := hid hdis
  clear hbp hop hoq hdis
  clear o_BA_0 o_BA_1 o_BA_2 o_BA_3
  have HB' : Hd (Bus (fun b => b < w.heap.size) W4 (.slice ab n cb) bs) := hid (HB.out.keep hk (fun _ _ _ h => h))
  have HP' : Hd (Sl (fun b => b < w.heap.size) W4 (.slice ap np cp) (i64s ps)) := hid (HP.out.keep hk (fun _ _ _ h => h))
  have HS' : Hd (Sl (fun b => b < w.heap.size) W4 (.slice aq ns cq) (i64s sn)) := hid (HS.out.keep hk (fun _ _ _ h => h))
  have HX' : Hd (Sl (fun b => b < w.heap.size) W4 (.slice ad dn cd) (u8s x.d)) := hid (HX.out.keep hk (fun _ _ _ h => h))
  have BA' : Hd (Blk W4 w.heap.size #[(.int .i64 q), (.slice ab n cb), (.slice ap np cp), (.slice aq ns cq)] 44) := hid (blk_keep BA.out hk (fun h => h))
  have BB' : Hd (Blk W4 b_BB #[(.int .i64 x.i), (.int .i64 x.f), (.int .i64 x.t), (.int .i64 x.g), (.int .i64 x.o), (.int .i64 x.a), (.int .u32 (x.s : Int)), (.slice ad dn cd)] 59) := hid (blk_keep BB.out hk (fun h => h))
  have BR' : Hd (Blk W4 b_BR #[(.int .i64 0), (.slice none 0 0), (.slice none 0 0), (.slice none 0 0)] 44) := hid (blk_keep BR.out hk (fun h => h))
  have BO' : Hd (Blk W4 W2.heap.size #[(.int .i64 0), (.slice none 0 0), (.slice none 0 0), (.slice none 0 0)] 44) := hid (blk_keep BO.out hk (fun h => h))
  clear HB HP HS HX BA BB BR BO
  have HB := HB'
  clear HB'
  have HP := HP'
  clear HP'
  have HS := HS'
  clear HS'
  have HX := HX'
  clear HX'
  have BA := BA'
  clear BA'
  have BB := BB'
  clear BB'
  have BR := BR'
  clear BR'
  have BO := BO'
  clear BO'
  have HK' : Hd (Keeps (fun _ => False) w W4) := hid (HK.out.trans hk)
  clear HK
  have HK := HK'
  clear HK'
  have z_W4 := hk.size
  clear hk
  have HBQ : Hd (BuQ (fun b => B1 ≤ b ∧ b < W4.heap.size) W4 (.slice ab2 n cb2) bs) := hid (HBP.out.buq (fun b hb h => ⟨h, by omega⟩) (fun b hb h => ⟨h, by omega⟩))
  clear HBP
  have o_BR_0 : W4.cell? ⟨b_BR, 0, none⟩ = some ((.int .i64 0)) := blk_cell BR.out 0
  have o_BR_1 : W4.cell? ⟨b_BR, 1, none⟩ = some ((.slice none 0 0)) := blk_cell BR.out 1
  have o_BR_2 : W4.cell? ⟨b_BR, 2, none⟩ = some ((.slice none 0 0)) := blk_cell BR.out 2
  have o_BR_3 : W4.cell? ⟨b_BR, 3, none⟩ = some ((.slice none 0 0)) := blk_cell BR.out 3
  have f_BR_0 : W4.frozen? ⟨b_BR, 0, none⟩ = false := blk_free BR.out 0
  have f_BR_1 : W4.frozen? ⟨b_BR, 1, none⟩ = false := blk_free BR.out 1
  have f_BR_2 : W4.frozen? ⟨b_BR, 2, none⟩ = false := blk_free BR.out 2
  have f_BR_3 : W4.frozen? ⟨b_BR, 3, none⟩ = false := blk_free BR.out 3
  go_wp2
  clear o_BR_0 o_BR_1 o_BR_2 o_BR_3 f_BR_0 f_BR_1 f_BR_2 f_BR_3
  obtain ⟨HV2, B3⟩ := fin4 HK.out (show w.heap.size ≤ b_BR by omega) BR.out (.int .i64 q) (.slice ab2 n cb2) (.slice ap2 np cp2) (.slice aq2 ns cq2)
  have r0 := blk_cell B3 0
  have r1 := blk_cell B3 1
  have r2 := blk_cell B3 2
  have r3 := blk_cell B3 3
  have kf := keep4 W4 b_BR (.int .i64 q) (.slice ab2 n cb2) (.slice ap2 np cp2) (.slice aq2 ns cq2)
  refine bodyPost_ret (v := .tuple #[.agg #[.int .i64 q, .slice ab2 n cb2, .slice ap2 np cp2, .slice aq2 ns cq2], .bool true, .int .i64 0]) (by simp [results, Tryd.results52, go_sem, r0, r1, r2, r3]) rfl ?_
  exact ⟨_, rfl, ⟨ab2, cb2, ap2, cp2, aq2, cq2, rfl, (HBQ.out.bus.keep kf (fun b h1 h2 h3 => by omega)).mono (fun b _ h => by omega), ((row_sl HOP.out.row (by rw [i64s_length, HNP.out])).keep kf (fun b h1 h2 h3 => by have := h2.2.1; omega)).mono (fun b _ h => by have := h.2.1; omega), ((row_sl HOQ.out.row (by rw [i64s_length, HNS.out])).keep kf (fun b h1 h2 h3 => by have := h2.2.1; omega)).mono (fun b _ h => by have := h.2.1; omega)⟩, HV2⟩
set_option maxRecDepth 100000 in set_option maxHeartbeats 1000000 in
theorem Accept_ok (K : Nat → Prop) (q : Int) (bs : List Bu) (ps sn : List Int) (x : Bu) (ab ap aq ad : Option Addr) (cb cp cq cd : Nat) (w : World) (hb : Bus K w (.slice ab bs.length cb) bs) (hp : Sl K w (.slice ap ps.length cp) (i64s ps)) (hs : Sl K w (.slice aq sn.length cq) (i64s sn)) (hx : Sl K w (.slice ad x.d.length cd) (u8s x.d))
    (l1 : bs.length ≤ 63) (l2 : ps.length ≤ 1000) (l3 : sn.length ≤ 1000) (hd : ∀ x ∈ bs, x.d.length ≤ 256) (hdx : x.d.length ≤ 256) (hss : sn.Pairwise (· < ·)) (hi : x.i ∉ sn) (hu : usedL bs + ((x.d.length : Int) + 16) ≤ q) (hq : q ≤ 1000000) :
    Calls Tryd.prog 52 #[.agg #[.int .i64 q, .slice ab bs.length cb, .slice ap ps.length cp, .slice aq sn.length cq], .agg #[.int .i64 x.i, .int .i64 x.f, .int .i64 x.t, .int .i64 x.g, .int .i64 x.o, .int .i64 x.a, .int .u32 (x.s : Int), .slice ad x.d.length cd]] w fun e w' => ∃ v, e = .returned (.tuple #[v, .bool true, .int .i64 0]) ∧ StO (fun b => w.heap.size ≤ b) q (bs ++ [x]) ps (insI sn x.i) v w' ∧ Keeps (fun _ => False) w w' := by
  have HI := hid hi; have HU := hid hu
  have HIL : Hd ((insI sn x.i).length = sn.length + 1) := hid (by unfold insI; have := posI_le sn x.i; simp; omega)
  have HBL : Hd ((bs ++ [x]).length = bs.length + 1) := hid (by simp)
  clear hi hu
  unfold StO
  rw [HIL.out, HBL.out]
  have HB := hid (hb.mono (K' := fun b => b < w.heap.size) (fun b h _ => h)); have HP := hid (hp.mono (K' := fun b => b < w.heap.size) (fun b h _ => h)); have HS := hid (hs.mono (K' := fun b => b < w.heap.size) (fun b h _ => h)); have HX := hid (hx.mono (K' := fun b => b < w.heap.size) (fun b h _ => h)); have HD := hid hd; have HSS := hid hss
  clear hb hp hs hd hx hss
  obtain ⟨n, hn⟩ : ∃ n, bs.length = n := ⟨_, rfl⟩
  obtain ⟨np, hnp⟩ : ∃ n, ps.length = n := ⟨_, rfl⟩
  obtain ⟨ns, hns⟩ : ∃ n, sn.length = n := ⟨_, rfl⟩
  obtain ⟨dn, hdn⟩ : ∃ n, x.d.length = n := ⟨_, rfl⟩
  have HN := hid hn; have HNP := hid hnp; have HNS := hid hns; have HDN := hid hdn
  rw [hn] at HB l1 ⊢
  rw [hnp] at HP l2 ⊢
  rw [hns] at HS l3 ⊢
  rw [hdn] at HX hdx ⊢
  clear hn hnp hns hdn
  go_enter Tryd.func52, Tryd.ntmps52
  go_upto_region 1 with fail
  generalize hW : World.alloc (World.alloc (World.alloc w _) _) _ = W1
  have KS : Hd (Keeps (fun _ => False) w W1) := hid (by rw [← hW]; exact (Keeps.alloc (Keeps.alloc (Keeps.alloc (Keeps.refl (fun _ => False) w) _) _) _))
  have HB' : Hd (Bus (fun b => b < w.heap.size) W1 (.slice ab n cb) bs) := hid (HB.out.keep KS.out (fun _ _ _ h => h))
  have HP' : Hd (Sl (fun b => b < w.heap.size) W1 (.slice ap np cp) (i64s ps)) := hid (HP.out.keep KS.out (fun _ _ _ h => h))
  have HS' : Hd (Sl (fun b => b < w.heap.size) W1 (.slice aq ns cq) (i64s sn)) := hid (HS.out.keep KS.out (fun _ _ _ h => h))
  have HX' : Hd (Sl (fun b => b < w.heap.size) W1 (.slice ad dn cd) (u8s x.d)) := hid (HX.out.keep KS.out (fun _ _ _ h => h))
  have BA : Hd (Blk W1 w.heap.size #[(.int .i64 q), (.slice ab n cb), (.slice ap np cp), (.slice aq ns cq)] 44) := hid (by rw [← hW]; exact (blk_alloc (blk_alloc (blk_new _ _ _) _) _))
  have BB : Hd (Blk W1 (w.heap.size + 1) #[(.int .i64 x.i), (.int .i64 x.f), (.int .i64 x.t), (.int .i64 x.g), (.int .i64 x.o), (.int .i64 x.a), (.int .u32 (x.s : Int)), (.slice ad dn cd)] 59) := hid (by rw [← hW]; exact (blk_alloc (blk_new' _ _ _ _ (by simp)) _))
  have BR : Hd (Blk W1 (w.heap.size + 1 + 1) #[(.int .i64 0), (.slice none 0 0), (.slice none 0 0), (.slice none 0 0)] 44) := hid (by rw [← hW]; exact (blk_new' _ _ _ _ (by simp)))
  clear HB HP HS HX
  have HB := HB'
  clear HB'
  have HP := HP'
  clear HP'
  have HS := HS'
  clear HS'
  have HX := HX'
  clear HX'
  have HK : Hd (Keeps (fun _ => False) w W1) := hid KS.out
  have z_W1 : w.heap.size + 3 ≤ W1.heap.size := by rw [← hW]; simp
  clear hW KS
  generalize hb_BR : w.heap.size + 1 + 1 = b_BR at *
  generalize hb_BB : w.heap.size + 1 = b_BB at *
  have o_BA_0 : W1.cell? ⟨w.heap.size, 0, none⟩ = some ((.int .i64 q)) := blk_cell BA.out 0
  have o_BA_1 : W1.cell? ⟨w.heap.size, 1, none⟩ = some ((.slice ab n cb)) := blk_cell BA.out 1
  have o_BA_2 : W1.cell? ⟨w.heap.size, 2, none⟩ = some ((.slice ap np cp)) := blk_cell BA.out 2
  have o_BA_3 : W1.cell? ⟨w.heap.size, 3, none⟩ = some ((.slice aq ns cq)) := blk_cell BA.out 3
  have o_BB_0 : W1.cell? ⟨b_BB, 0, none⟩ = some ((.int .i64 x.i)) := blk_cell BB.out 0
  have o_BB_1 : W1.cell? ⟨b_BB, 1, none⟩ = some ((.int .i64 x.f)) := blk_cell BB.out 1
  have o_BB_2 : W1.cell? ⟨b_BB, 2, none⟩ = some ((.int .i64 x.t)) := blk_cell BB.out 2
  have o_BB_3 : W1.cell? ⟨b_BB, 3, none⟩ = some ((.int .i64 x.g)) := blk_cell BB.out 3
  have o_BB_4 : W1.cell? ⟨b_BB, 4, none⟩ = some ((.int .i64 x.o)) := blk_cell BB.out 4
  have o_BB_5 : W1.cell? ⟨b_BB, 5, none⟩ = some ((.int .i64 x.a)) := blk_cell BB.out 5
  have o_BB_6 : W1.cell? ⟨b_BB, 6, none⟩ = some ((.int .u32 (x.s : Int))) := blk_cell BB.out 6
  have o_BB_7 : W1.cell? ⟨b_BB, 7, none⟩ = some ((.slice ad dn cd)) := blk_cell BB.out 7
  go_wp2_with fail
  have hcc := Create_ok (fun b => b < w.heap.size) q bs ps sn x ab ap aq ad cb cp cq cd W1 (by rw [HN.out]; exact HB.out) (by rw [HNP.out]; exact HP.out) (by rw [HNS.out]; exact HS.out) (by rw [HDN.out]; exact HX.out) (by rw [HN.out]; omega) (by rw [HNP.out]; omega) (by rw [HNS.out]; omega) (fun y hy => HD.out y hy) (by rw [HDN.out]; omega) HSS.out HI.out HU.out hq
  rw [HN.out, HNP.out, HNS.out, HDN.out] at hcc
  refine (hcc).mono ?_
  clear hcc
  rintro e W2 ⟨ab2, cb2, ap2, cp2, aq2, cq2, rfl, hbs, hp2, hs2, hk⟩
  have HB2 := hid hbs; have HP2 := hid hp2; have HS2 := hid hs2
  clear hbs hp2 hs2
  clear o_BA_0 o_BA_1 o_BA_2 o_BA_3 o_BB_0 o_BB_1 o_BB_2 o_BB_3 o_BB_4 o_BB_5 o_BB_6 o_BB_7
  have HB' : Hd (Bus (fun b => b < w.heap.size) W2 (.slice ab n cb) bs) := hid (HB.out.keep hk (fun _ _ _ h => h))
  have HP' : Hd (Sl (fun b => b < w.heap.size) W2 (.slice ap np cp) (i64s ps)) := hid (HP.out.keep hk (fun _ _ _ h => h))
  have HS' : Hd (Sl (fun b => b < w.heap.size) W2 (.slice aq ns cq) (i64s sn)) := hid (HS.out.keep hk (fun _ _ _ h => h))
  have HX' : Hd (Sl (fun b => b < w.heap.size) W2 (.slice ad dn cd) (u8s x.d)) := hid (HX.out.keep hk (fun _ _ _ h => h))
  have BA' : Hd (Blk W2 w.heap.size #[(.int .i64 q), (.slice ab n cb), (.slice ap np cp), (.slice aq ns cq)] 44) := hid (blk_keep BA.out hk (fun h => h))
  have BB' : Hd (Blk W2 b_BB #[(.int .i64 x.i), (.int .i64 x.f), (.int .i64 x.t), (.int .i64 x.g), (.int .i64 x.o), (.int .i64 x.a), (.int .u32 (x.s : Int)), (.slice ad dn cd)] 59) := hid (blk_keep BB.out hk (fun h => h))
  have BR' : Hd (Blk W2 b_BR #[(.int .i64 0), (.slice none 0 0), (.slice none 0 0), (.slice none 0 0)] 44) := hid (blk_keep BR.out hk (fun h => h))
  clear HB HP HS HX BA BB BR
  have HB := HB'
  clear HB'
  have HP := HP'
  clear HP'
  have HS := HS'
  clear HS'
  have HX := HX'
  clear HX'
  have BA := BA'
  clear BA'
  have BB := BB'
  clear BB'
  have BR := BR'
  clear BR'
  have HK' : Hd (Keeps (fun _ => False) w W2) := hid (HK.out.trans hk)
  clear HK
  have HK := HK'
  clear HK'
  have z_W2 := hk.size
  clear hk
  go_upto_region 2 with fail
  generalize hW : World.alloc W2 _ = W3
  have KS : Hd (Keeps (fun _ => False) W2 W3) := hid (by rw [← hW]; exact (Keeps.alloc (Keeps.refl (fun _ => False) W2) _))
  have HB' : Hd (Bus (fun b => b < w.heap.size) W3 (.slice ab n cb) bs) := hid (HB.out.keep KS.out (fun _ _ _ h => h))
  have HP' : Hd (Sl (fun b => b < w.heap.size) W3 (.slice ap np cp) (i64s ps)) := hid (HP.out.keep KS.out (fun _ _ _ h => h))
  have HS' : Hd (Sl (fun b => b < w.heap.size) W3 (.slice aq ns cq) (i64s sn)) := hid (HS.out.keep KS.out (fun _ _ _ h => h))
  have HX' : Hd (Sl (fun b => b < w.heap.size) W3 (.slice ad dn cd) (u8s x.d)) := hid (HX.out.keep KS.out (fun _ _ _ h => h))
  have BA' : Hd (Blk W3 w.heap.size #[(.int .i64 q), (.slice ab n cb), (.slice ap np cp), (.slice aq ns cq)] 44) := hid (by rw [← hW]; exact (blk_alloc BA.out _))
  have BB' : Hd (Blk W3 b_BB #[(.int .i64 x.i), (.int .i64 x.f), (.int .i64 x.t), (.int .i64 x.g), (.int .i64 x.o), (.int .i64 x.a), (.int .u32 (x.s : Int)), (.slice ad dn cd)] 59) := hid (by rw [← hW]; exact (blk_alloc BB.out _))
  have BR' : Hd (Blk W3 b_BR #[(.int .i64 0), (.slice none 0 0), (.slice none 0 0), (.slice none 0 0)] 44) := hid (by rw [← hW]; exact (blk_alloc BR.out _))
  have HB2' : Hd (Bus (fun b => W1.heap.size ≤ b) W3 (.slice ab2 (n + 1) cb2) (bs ++ [x])) := hid (HB2.out.keep KS.out (fun _ _ _ h => h))
  have HP2' : Hd (Sl (fun b => W1.heap.size ≤ b) W3 (.slice ap2 np cp2) (i64s ps)) := hid (HP2.out.keep KS.out (fun _ _ _ h => h))
  have HS2' : Hd (Sl (fun b => W1.heap.size ≤ b) W3 (.slice aq2 (ns + 1) cq2) (i64s (insI sn x.i))) := hid (HS2.out.keep KS.out (fun _ _ _ h => h))
  have BO : Hd (Blk W3 W2.heap.size #[(.int .i64 q), (.slice ab2 (n + 1) cb2), (.slice ap2 np cp2), (.slice aq2 (ns + 1) cq2)] 44) := hid (by rw [← hW]; exact (blk_new _ _ _))
  clear HB HP HS HX BA BB BR HB2 HP2 HS2
  have HB := HB'
  clear HB'
  have HP := HP'
  clear HP'
  have HS := HS'
  clear HS'
  have HX := HX'
  clear HX'
  have BA := BA'
  clear BA'
  have BB := BB'
  clear BB'
  have BR := BR'
  clear BR'
  have HB2 := HB2'
  clear HB2'
  have HP2 := HP2'
  clear HP2'
  have HS2 := HS2'
  clear HS2'
  have HK' : Hd (Keeps (fun _ => False) w W3) := hid (HK.out.trans KS.out)
  clear HK
  have HK := HK'
  clear HK'
  have z_W3 : W2.heap.size + 1 ≤ W3.heap.size := by rw [← hW]; simp
  clear hW KS
  have o_BO_0 : W3.cell? ⟨W2.heap.size, 0, none⟩ = some ((.int .i64 q)) := blk_cell BO.out 0
  have o_BO_1 : W3.cell? ⟨W2.heap.size, 1, none⟩ = some ((.slice ab2 (n + 1) cb2)) := blk_cell BO.out 1
  have o_BO_2 : W3.cell? ⟨W2.heap.size, 2, none⟩ = some ((.slice ap2 np cp2)) := blk_cell BO.out 2
  have o_BO_3 : W3.cell? ⟨W2.heap.size, 3, none⟩ = some ((.slice aq2 (ns + 1) cq2)) := blk_cell BO.out 3
  have o_BR_0 : W3.cell? ⟨b_BR, 0, none⟩ = some ((.int .i64 0)) := blk_cell BR.out 0
  have o_BR_1 : W3.cell? ⟨b_BR, 1, none⟩ = some ((.slice none 0 0)) := blk_cell BR.out 1
  have o_BR_2 : W3.cell? ⟨b_BR, 2, none⟩ = some ((.slice none 0 0)) := blk_cell BR.out 2
  have o_BR_3 : W3.cell? ⟨b_BR, 3, none⟩ = some ((.slice none 0 0)) := blk_cell BR.out 3
  have f_BR_0 : W3.frozen? ⟨b_BR, 0, none⟩ = false := blk_free BR.out 0
  have f_BR_1 : W3.frozen? ⟨b_BR, 1, none⟩ = false := blk_free BR.out 1
  have f_BR_2 : W3.frozen? ⟨b_BR, 2, none⟩ = false := blk_free BR.out 2
  have f_BR_3 : W3.frozen? ⟨b_BR, 3, none⟩ = false := blk_free BR.out 3
  go_wp2
  clear o_BO_0 o_BO_1 o_BO_2 o_BO_3 o_BR_0 o_BR_1 o_BR_2 o_BR_3 f_BR_0 f_BR_1 f_BR_2 f_BR_3
  obtain ⟨HV2, B3⟩ := fin4 HK.out (show w.heap.size ≤ b_BR by omega) BR.out (.int .i64 q) (.slice ab2 (n + 1) cb2) (.slice ap2 np cp2) (.slice aq2 (ns + 1) cq2)
  have r0 := blk_cell B3 0
  have r1 := blk_cell B3 1
  have r2 := blk_cell B3 2
  have r3 := blk_cell B3 3
  have kf := keep4 W3 b_BR (.int .i64 q) (.slice ab2 (n + 1) cb2) (.slice ap2 np cp2) (.slice aq2 (ns + 1) cq2)
  refine bodyPost_ret (v := .tuple #[.agg #[.int .i64 q, .slice ab2 (n + 1) cb2, .slice ap2 np cp2, .slice aq2 (ns + 1) cq2], .bool true, .int .i64 0]) (by simp [results, Tryd.results52, go_sem, r0, r1, r2, r3]) rfl ?_
  exact ⟨_, rfl, ⟨ab2, cb2, ap2, cp2, aq2, cq2, rfl, (HB2.out.keep kf (fun b h1 h2 h3 => by omega)).mono (fun b _ h => by omega), (HP2.out.keep kf (fun b h1 h2 h3 => by omega)).mono (fun b _ h => by omega), (HS2.out.keep kf (fun b h1 h2 h3 => by omega)).mono (fun b _ h => by omega)⟩, HV2⟩
end Go.Proofs.YtgfekgceeigdiaaDoor
