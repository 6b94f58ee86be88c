/- File: FileGaps walked. -/
import Derived.Test.YtgeicbjlichdgaaDoorFileX
namespace Go.Proofs.YtgeicbjlichdgaaDoor
open Go.RowKit
attribute [local go_sem ↓] Go.wp_at_zero Go.wp_at_succ
def OwB (w : World) (gh nx : Nat) (hv : List Bool) : Prop := Own (fun b => b = gh) w 4 1 (.slice (some ⟨gh, 0, none⟩) nx nx) nx (bls hv) ∧ hv.length = nx
theorem OwB.keep {S : Nat → Prop} {w w' : World} {gh nx : Nat} {hv : List Bool} (h : OwB w gh nx hv) (hk : Keeps S w w') (hd : ∀ b : Nat, b = b → b = gh → ¬ S b) : OwB w' gh nx hv := ⟨h.1.keep hk (fun b _ hb => hd b rfl hb), h.2⟩
theorem OwB.at {w : World} {gh nx : Nat} {hv : List Bool} (h : OwB w gh nx hv) {k : Nat} (hk : k < nx) : w.cell? ⟨gh, k, none⟩ = some (.bool (hv.getD k false)) ∧ w.frozen? ⟨gh, k, none⟩ = false ∧ ∀ b, OwB (w.setCell ⟨gh, k, none⟩ (.bool b)) gh nx (hv.set k b) := by
  have hl := h.2
  refine ⟨?_, h.1.1.frozenAt _, fun b => ⟨?_, by rw [List.length_set]; exact hl⟩⟩
  · rw [h.1.1.cellAt k (by omega)]
    simp [bls, List.getD, hl, hk]
  · have := own_set h.1 k (.bool b)
    rw [bls_set] at this
    exact this
theorem getD_set (hv : List Bool) (j k : Nat) (b : Bool) (hj : j < hv.length) : (hv.set j b).getD k false = if k = j then b else hv.getD k false := by
  unfold List.getD
  by_cases h : k = j
  · subst h; rw [List.getElem?_set_self hj, if_pos rfl]; rfl
  · rw [List.getElem?_set_ne (fun e => h e.symm), if_neg h]
def btw (o e : Int) (k : Nat) : Bool := decide (o ≤ (k : Int)) && decide ((k : Int) < e)
theorem btw_nil (o : Int) (k : Nat) : btw o o k = false := by unfold btw; by_cases h : o ≤ (k : Int) <;> simp [h]
theorem btw_end (o : Int) (k : Nat) : btw o k k = false := by unfold btw; rw [decide_eq_false (by omega : ¬ ((k : Int) < k)), Bool.and_false]
theorem btw_step (o e : Int) (he : o ≤ e) (j k : Nat) (hj : (j : Int) = e) : btw o (e + 1) k = if k = j then true else btw o e k := by
  unfold btw
  by_cases h : k = j
  · subst h; rw [if_pos rfl, decide_eq_true (by omega), decide_eq_true (by omega)]; rfl
  · rw [if_neg h]
    congr 1
    exact decide_eq_decide.2 (by omega)
theorem inS_btw (s : Seg) (k : Nat) : inS s k = btw s.o (s.o + s.d.length) k := rfl
theorem any_take {α : Type} {l : List α} {i : Nat} {y : α} (h : l[i]? = some y) (f : α → Bool) : (l.take (i + 1)).any f = ((l.take i).any f || f y) := by
  rw [List.take_add_one, h, List.any_append]; simp
/-- what is marked: B and the part [o, e) -/
def Mk (hv : List Bool) (nx : Nat) (B : Nat → Bool) (o e : Int) : Prop := ∀ k, k < nx → hv.getD k false = (B k || btw o e k)
theorem mk_step {hv : List Bool} {nx : Nat} {B : Nat → Bool} {o e : Int} (h : Mk hv nx B o e) (hl : hv.length = nx) (ho : o ≤ e) {j : Nat} (hj : (j : Int) = e) (hjn : j < nx) : Mk (hv.set j true) nx B o (e + 1) := by
  intro k hk
  rw [getD_set hv j k true (by omega), btw_step o e ho j k hj]
  by_cases h' : k = j
  · rw [if_pos h', if_pos h', Bool.or_true]
  · rw [if_neg h', if_neg h', h k hk]
def GapSt (W : World) (p gh nx : Nat) (M : Pm) (hv : List Bool) (w : World) : Prop := PartR (fun b => b = p ∨ W.heap.size ≤ b) w p M ∧ OwB w gh nx hv ∧ Keeps (fun b => b = p ∨ b = gh) W w
theorem gapSt_put {W w w' : World} {p gh nx : Nat} {M : Pm} {hv : List Bool} {y : Seg} {e : Ending} (h : GapSt W p gh nx M hv w) (hg : gh < W.heap.size) (hpg : p ≠ gh) (hp : PutPost (fun b => b = p ∨ W.heap.size ≤ b) w p M y e w') : e = .returned (.int .i64 (putE M y)) ∧ GapSt W p gh nx (putM M y) hv w' := by
  obtain ⟨h1, h2, h3⟩ := hp
  refine ⟨h1, h2.mono (fun b _ hb => ?_), h.2.1.keep h3 (fun b _ hb h => by omega), h.2.2.trans' h3 (fun i hi hb => ?_)⟩
  · rcases hb with hb | hb
    · exact hb
    · exact .inr (Nat.le_trans h.2.2.size hb)
  · rcases hb with hb | hb
    · exact .inl hb
    · omega
theorem gapSt_set {W w : World} {p gh nx : Nat} {M : Pm} {hv : List Bool} (h : GapSt W p gh nx M hv w) (hg : gh < W.heap.size) (hpg : p ≠ gh) {k : Nat} (hk : k < nx) : GapSt W p gh nx M (hv.set k true) (w.setCell ⟨gh, k, none⟩ (.bool true)) := by
  have k2 := keeps_set (fun b => b = gh) w ⟨gh, k, none⟩ (.bool true) rfl
  exact ⟨h.1.keep k2 (fun b hb h1 h2 => by omega), (h.2.1.at hk).2.2 true, h.2.2.trans' k2 (fun b _ hb => .inr hb)⟩
def inG (k : Nat) (p : Int × Int) : Bool := btw p.1 p.2 k
theorem gap_free {M : Pm} {G : List (Int × Int)} (hG : gapsL M.hv = G) {i : Nat} {u t : Int} (hi : G[i]? = some (u, t)) {j : Nat} (h1 : u ≤ (j : Int)) (h2 : (j : Int) < t) : (M.hv.getD j false || (G.take i).any (inG j)) = false := by
  obtain ⟨g1, g2, g3, -⟩ := gaps_all M.hv
  rw [hG] at g1 g2 g3
  have hm := List.mem_of_getElem? hi
  obtain ⟨b1, b2, b3⟩ := g3 _ hm
  simp only [] at b1 b2 b3
  have e1 : M.hv.getD j false = false := (g1 j (by omega)).2 ⟨_, hm, h1, h2⟩
  rw [e1, Bool.false_or, List.any_eq_false]
  intro p hp
  have := srt_before g2 i (Nat.le_of_lt (List.getElem?_eq_some_iff.1 hi).1) p hp
  have := (g2 i _ hi).1
  simp only [] at this
  unfold inG btw
  rw [decide_eq_false (show ¬ ((j : Int) < p.2) by omega), Bool.and_false]
  exact Bool.false_ne_true
set_option maxRecDepth 100000 in set_option maxHeartbeats 1000000 in
theorem gaps_law (v1 vs vo : Value) (l1 : List Nat) (sizes order : List Int) (id : Int) (w : World) (hN : Cr.Nib w) (h1 : Sl (fun b => b < w.heap.size) w v1 (u8s l1)) (hl1 : ∀ c ∈ l1, c < 256) (hs : Sl (fun b => b < w.heap.size) w vs (i64s sizes)) (hsr : I64s sizes) (ho : Sl (fun b => b < w.heap.size) w vo (i64s order)) (hor : I64s order) :
    Calls Tryd.prog 6 #[.int .i64 id, v1, vs, vo] w fun e w' => e = .returned (.bool true) ∧ Keeps (fun _ => False) w w' := by
  have HS := hid hs; have HSR := hid hsr; have HO := hid ho; have HOR := hid hor
  clear hs hsr ho hor
  have HN : Hd (NibF w) := hid hN
  have hpos := HN.out.pos
  have H1 := hid h1
  obtain ⟨x, hx⟩ : ∃ x, l1.take 700 = x := ⟨_, rfl⟩
  have HFB : Hd (∀ c ∈ x, c < 256) := hid (by rw [← hx]; exact fun c hc => hl1 c (List.mem_of_mem_take hc))
  have hxl : x.length ≤ 700 := by rw [← hx, List.length_take]; omega
  have HFE := hid hx
  clear hN h1 hl1 hx
  go_enter Tryd.func6, Tryd.ntmps6
  go_wp2_with fail
  refine (most_any _ _ l1 _ H1.out).mono ?_
  rw [HFE.out]
  rintro e wx ⟨ma, mc, rfl, hm, rfl⟩
  have SM := hid hm; clear hm
  go_wp2_with fail
  refine (NewPart_any id _).mono ?_
  rintro e W1 ⟨rfl, hp, hk⟩
  have HP := hid hp
  clear hp
  have HN' : Hd (NibF W1) := hid (HN.out.keep hk (fun _ _ _ h => h))
  have H1' : Hd (Sl (fun b => b < w.heap.size) W1 v1 (u8s l1)) := hid (H1.out.keep hk (fun _ _ _ h => h))
  have HS' : Hd (Sl (fun b => b < w.heap.size) W1 vs (i64s sizes)) := hid (HS.out.keep hk (fun _ _ _ h => h))
  have HO' : Hd (Sl (fun b => b < w.heap.size) W1 vo (i64s order)) := hid (HO.out.keep hk (fun _ _ _ h => h))
  have SM' : Hd (Sl (fun b => b < w.heap.size) W1 (.slice ma x.length mc) (u8s x)) := hid (SM.out.keep hk (fun _ _ _ h => h))
  clear HN H1 HS HO SM
  have HN := HN'
  clear HN'
  have H1 := H1'
  clear H1'
  have HS := HS'
  clear HS'
  have HO := HO'
  clear HO'
  have SM := SM'
  clear SM'
  have HK : Hd (Keeps (fun _ => False) w W1) := hid hk
  have z_W1 := hk.size
  clear hk
  have lt_p : w.heap.size < W1.heap.size := by obtain ⟨_, _, _, _, hb, _⟩ := HP.out; exact blk_lt hb
  obtain ⟨L, hL⟩ : ∃ L, segsL id x sizes order = L := ⟨_, rfl⟩
  have HOL : Hd (∀ s ∈ L, OfF id x s) := hid (by rw [← hL]; exact segs_of (by omega))
  have hll : L.length ≤ 60 := by rw [← hL]; exact segs_len _ _ _ _
  have HL := hid hL
  clear hL
  go_wp2_with fail
  refine (segments_any _ _ _ x sizes order id _ HN.out (SM.out.mono (fun b h _ => h)) HFB.out (by omega) (HS.out.mono (fun b h _ => h)) (HO.out.mono (fun b h _ => h)) HSR.out HOR.out).mono ?_
  rw [HL.out]
  rintro e W2 ⟨la, ln, lc, rfl, rfl, hlp, hk⟩
  have HP1 := hid hlp
  clear hlp
  have HN' : Hd (NibF W2) := hid (HN.out.keep hk (fun _ _ _ h => h))
  have H1' : Hd (Sl (fun b => b < w.heap.size) W2 v1 (u8s l1)) := hid (H1.out.keep hk (fun _ _ _ h => h))
  have HS' : Hd (Sl (fun b => b < w.heap.size) W2 vs (i64s sizes)) := hid (HS.out.keep hk (fun _ _ _ h => h))
  have HO' : Hd (Sl (fun b => b < w.heap.size) W2 vo (i64s order)) := hid (HO.out.keep hk (fun _ _ _ h => h))
  have SM' : Hd (Sl (fun b => b < w.heap.size) W2 (.slice ma x.length mc) (u8s x)) := hid (SM.out.keep hk (fun _ _ _ h => h))
  have HP' : Hd (PartR (fun b => b = w.heap.size) W2 w.heap.size (newM id)) := hid (HP.out.keep hk (fun _ _ _ h => h))
  clear HN H1 HS HO SM HP
  have HN := HN'
  clear HN'
  have H1 := H1'
  clear H1'
  have HS := HS'
  clear HS'
  have HO := HO'
  clear HO'
  have SM := SM'
  clear SM'
  have HP := HP'
  clear HP'
  have HK' : Hd (Keeps (fun _ => False) w W2) := hid (HK.out.trans hk)
  clear HK
  have HK := HK'
  clear HK'
  have z_W2 := hk.size
  clear hk
  have SL := hid (HP1.out.sgs.mono (K' := fun b => W1.heap.size ≤ b) (fun b _ h => by rcases h with h | h <;> exact h))
  clear HP1
  have HF00 : Hd (Fit id x (newM id)) := hid (newM_fit id x)
  obtain ⟨n, hn⟩ : ∃ n, L.length = n := ⟨_, rfl⟩
  rw [hn] at SL hll ⊢
  have HNL := hid hn
  clear hn
  have hmkb : ∀ w, (Instr.makeSlice 50 (.int .i64 (x.length : Int)) (.int .i64 (x.length : Int))).run Tryd.prog w = .ok (.slice (some ⟨w.heap.size, 0, none⟩) x.length x.length) (w.alloc (.cells (bls (List.replicate x.length false)).toArray 4)) := fun w => by rw [← made_b]; exact run_make_row' (P := Tryd.prog) 50 4 (.bool false) 1 Tryd.underlying50 infoBo rfl .i64 .i64 x.length (by omega) (by omega) w
  go_upto_region 7 with fail
  have SLN : Hd (Sgs (fun b => W1.heap.size ≤ b ∧ b < W2.heap.size) W2 (.slice la n lc) L) := hid (SL.out.mono (fun b hb h => ⟨h, hb⟩))
  clear SL
  have SL := SLN
  clear SLN
  clear hmkb
  generalize hW : World.alloc W2 _ = WH
  have BH := hid (show Blk WH W2.heap.size (bls (List.replicate x.length false)).toArray 4 from by rw [← hW]; exact blk_new _ _ _)
  have hk : Keeps (fun _ => False) W2 WH := by rw [← hW]; exact keeps_alloc _ _ _
  clear hW
  have HN' : Hd (NibF WH) := hid (HN.out.keep hk (fun _ _ _ h => h))
  have H1' : Hd (Sl (fun b => b < w.heap.size) WH v1 (u8s l1)) := hid (H1.out.keep hk (fun _ _ _ h => h))
  have HS' : Hd (Sl (fun b => b < w.heap.size) WH vs (i64s sizes)) := hid (HS.out.keep hk (fun _ _ _ h => h))
  have HO' : Hd (Sl (fun b => b < w.heap.size) WH vo (i64s order)) := hid (HO.out.keep hk (fun _ _ _ h => h))
  have SM' : Hd (Sl (fun b => b < w.heap.size) WH (.slice ma x.length mc) (u8s x)) := hid (SM.out.keep hk (fun _ _ _ h => h))
  have HP' : Hd (PartR (fun b => b = w.heap.size) WH w.heap.size (newM id)) := hid (HP.out.keep hk (fun _ _ _ h => h))
  have SL' : Hd (Sgs (fun b => W1.heap.size ≤ b ∧ b < W2.heap.size) WH (.slice la n lc) L) := hid (SL.out.keep hk (fun _ _ _ h => h))
  clear HN H1 HS HO SM HP SL
  have HN := HN'
  clear HN'
  have H1 := H1'
  clear H1'
  have HS := HS'
  clear HS'
  have HO := HO'
  clear HO'
  have SM := SM'
  clear SM'
  have HP := HP'
  clear HP'
  have SL := SL'
  clear SL'
  have HK' : Hd (Keeps (fun _ => False) w WH) := hid (HK.out.trans hk)
  clear HK
  have HK := HK'
  clear HK'
  have z_WH := hk.size
  clear hk
  obtain ⟨nx, hnx⟩ : ∃ nx, x.length = nx := ⟨_, rfl⟩
  have OH : Hd (OwB WH W2.heap.size nx (List.replicate nx false)) := hid ⟨by have h := own_full BH.out (by rw [bls_length, List.length_replicate]) (by unfold maxLen; omega); rw [hnx] at h; exact h, List.length_replicate⟩
  have hgW : W2.heap.size < WH.heap.size := blk_lt BH.out
  clear BH
  have hpg : w.heap.size ≠ W2.heap.size := by omega
  rw [hnx] at SM hxl ⊢
  have HNX := hid hnx
  clear hnx
  go_wp2_with fail
  go_loopw [13] (fun iv wr => ∃ (i : Nat) (hv : List Bool), iv = .int .i64 i ∧ i ≤ n ∧ Hd (Mk hv nx (fun k => (L.take i).any (fun s => inS s k)) 0 0) ∧ Hd (GapSt WH (w.heap.size) (W2.heap.size) nx ((L.take i).foldl putM (newM id)) hv wr)) (fun iv _ => n - (intOf iv).toNat)
  case atStart => exact ⟨0, List.replicate nx false, rfl, Nat.zero_le _, hid (fun k hk => by simp [btw_nil, List.getD, List.getElem?_replicate, hk]), hid ⟨HP.out.mono (fun b _ h => .inl h), OH.out, Keeps.refl _ _⟩⟩
  case round =>
    obtain ⟨V, hV⟩ : ∃ V, V = wr := ⟨_, rfl⟩
    subst hV
    obtain ⟨i, hv, rfl, hin, HM, PS⟩ := hrel
    by_cases hi : i < n
    · have k1 : (i : Int) < n := by omega
      have k2 : (0 : Int) ≤ i := by omega
      obtain ⟨y, hy⟩ : ∃ y, L[i]? = some y := ⟨L[i]'(by rw [HNL.out]; exact hi), List.getElem?_eq_getElem _⟩
      obtain ⟨bx, ox, rfl, hbx, hbx2, hcx⟩ := sgs_cells SL.out (by rw [HNL.out]; omega)
      obtain ⟨x0, x1, x2, x3, ad, cd, x4, SX⟩ := hcx i y hy
      have ps2 := PS.out.2.2
      have HOY := HOL.out y (List.mem_of_getElem? hy)
      obtain ⟨o, hoo⟩ : ∃ o : Nat, y.o = o := ⟨y.o.toNat, by have := HOY.o; omega⟩
      have m0 := keep_cell ps2 (fun h => by omega) x0; have m1 := keep_cell ps2 (fun h => by omega) x1; have m2 := keep_cell ps2 (fun h => by omega) x2; have m3 := keep_cell ps2 (fun h => by omega) x3; have m4 := keep_cell ps2 (fun h => by omega) x4
      have HSX := hid SX
      have zps := ps2.size
      obtain ⟨f1, f2, f3⟩ := puts_of (show x.length ≤ 65536 by rw [HNX.out]; omega) HFB.out (L.take i) (newM id) HF00.out (fun s hs => HOL.out s (List.mem_of_mem_take hs))
      obtain ⟨e0, -, -⟩ := put_of (show x.length ≤ 65536 by rw [HNX.out]; omega) HFB.out f1 HOY
      have HNXT : Hd ((L.take (i + 1)).foldl putM (newM id) = putM ((L.take i).foldl putM (newM id)) y) := hid (by rw [List.take_add_one, hy, List.foldl_append]; rfl)
      have HAN : Hd (∀ k, (L.take (i + 1)).any (fun s => inS s k) = ((L.take i).any (fun s => inS s k) || btw (o : Int) ((o : Int) + y.d.length) k)) := hid (fun k => by rw [any_take hy, ← hoo]; rfl)
      have HOK := hid f1.ok; have HE0 := hid e0; have HYB : Hd (∀ c ∈ y.d, c < 256) := hid (fun c hc => by rw [HOY.d] at hc; exact HFB.out c (List.mem_of_mem_drop (List.mem_of_mem_take hc))); have HY32 : Hd (y.s < 4294967296) := hid (by rw [HOY.s]; exact Cr.crc_lt HFB.out)
      have hye : o + y.d.length ≤ nx := by have := HOY.e; have := HNX.out; omega
      have HOO := hid hoo
      clear x0 x1 x2 x3 x4 hcx f1 f2 f3 e0 HOY hoo
      generalize hM : (L.take i).foldl putM (newM id) = M at *
      clear hM
      go_wp2_with fail
      refine (Put_any _ _ M y ad cd _ PS.out.1 HOK.out ((HSX.out.mono (K' := fun b => ¬ ((b = w.heap.size ∨ WH.heap.size ≤ b)) ∧ b < WH.heap.size ∧ ¬ (b = W2.heap.size)) (fun b h1 h2 => ⟨by omega, h1, by omega⟩)).keep ps2 (fun b h1 h2 h3 => by omega) |>.mono (fun b h1 h2 => ⟨h2.1, h1⟩)) HYB.out HY32.out).mono ?_
      rintro e w2 hpp
      have hk7 := hpp.2.2
      obtain ⟨rfl, PS2⟩ := gapSt_put PS.out (by omega) (by omega) hpp
      rw [HE0.out]
      rw [← HNXT.out] at PS2
      have HPS := hid PS2
      clear PS2 hpp PS SX
      have m1' := keep_cell hk7 (fun h => by omega) m1
      have m4' := keep_cell hk7 (fun h => by omega) m4
      rw [HOO.out] at m1'
      clear m0 m1 m2 m3 m4 hk7 HNXT
      obtain ⟨yl, hyl⟩ : ∃ yl, y.d.length = yl := ⟨_, rfl⟩
      rw [hyl] at m4' hye HAN
      clear hyl HSX HYB
      generalize hM2 : (L.take (i + 1)).foldl putM (newM id) = M2 at *
      have HM2E := hid hM2
      clear hM2
      go_wp2_with fail
      go_loopw [14] (fun iv wr => ∃ (j : Nat) (hv2 : List Bool), iv = .int .i64 j ∧ j ≤ yl ∧ Hd (Mk hv2 nx (fun k => (L.take i).any (fun s => inS s k)) o ((o : Int) + j)) ∧ Hd (GapSt WH (w.heap.size) (W2.heap.size) nx (M2) hv2 wr) ∧ Hd (Keeps (fun b => b = W2.heap.size) w2 wr)) (fun iv _ => yl - (intOf iv).toNat)
      case atStart => exact ⟨0, hv, rfl, Nat.zero_le _, hid (fun k hk => by rw [HM.out k hk, btw_nil, show ((o : Int) + ((0 : Nat) : Int)) = o by omega, btw_nil]), HPS, hid (Keeps.refl _ _)⟩
      case round =>
        obtain ⟨j, hv2, rfl, hj, HM2, PS3, KV⟩ := hrel
        have m1 := keep_cell KV.out (fun h => by omega) m1'
        have m4 := keep_cell KV.out (fun h => by omega) m4'
        by_cases hjl : j < yl
        · have j1 : (j : Int) < yl := by omega
          have j2 : (0 : Int) ≤ j := by omega
          obtain ⟨c1, c2, c3⟩ := PS3.out.2.1.at (show o + j < nx by omega)
          have HPS4 := hid (gapSt_set PS3.out (by omega) (by omega) (show o + j < nx by omega))
          have HM4 := hid (mk_step HM2.out PS3.out.2.1.2 (by omega) (show ((o + j : Nat) : Int) = (o : Int) + j by omega) (by omega))
          have HKV := hid (KV.out.trans (keeps_set (fun b => b = W2.heap.size) wr ⟨W2.heap.size, o + j, none⟩ (.bool true) rfl))
          clear c3
          have jj1 : (o : Int) + (j : Int) < nx := by omega
          have jj2 : (0 : Int) ≤ (o : Int) + (j : Int) := by omega
          have jj3 : ((o : Int) + (j : Int)).toNat = o + j := by omega
          clear jj1 jj2 jj3
          go_wp2
          go_roundw
          case rel => exact ⟨j + 1, hv2.set (o + j) true, by go_num, by omega, hid (by have := HM4.out; rw [show (o : Int) + ((j + 1 : Nat) : Int) = (o : Int) + j + 1 by omega]; exact this), HPS4, HKV⟩
          case measure => simp [intOf]; omega
        · have hje : j = yl := by omega
          have j1 : ¬ ((j : Int) < yl) := by omega
          have HMF : Hd (Mk hv2 nx (fun k => (L.take (i + 1)).any (fun s => inS s k)) 0 0) := hid (fun k hk => by have h := HM2.out k hk; have h2 := HAN.out k; rw [btw_nil, Bool.or_false]; rw [hje] at h; exact h.trans h2.symm)
          go_wp2
          go_roundw
          case rel => exact ⟨i + 1, hv2, by go_num, by omega, HMF, hid (by rw [HM2E.out]; exact PS3.out)⟩
          case measure => simp [intOf]; omega
    · have hie : i = n := by omega
      have k0 : ¬ ((i : Int) < n) := by omega
      rw [List.take_of_length_le (by rw [HNL.out]; omega)] at HM PS
      obtain ⟨hp9, ho9, hk⟩ := PS.out
      clear HP OH
      have HP := hid (hp9.mono (Z' := fun b => (b = w.heap.size ∨ WH.heap.size ≤ b) ∧ b < V.heap.size) (fun b hb h => ⟨h, hb⟩))
      have OH := hid ho9
      clear hp9 ho9 PS
      obtain ⟨f1, f2, f3⟩ := puts_of (show x.length ≤ 65536 by rw [HNX.out]; omega) HFB.out L (newM id) HF00.out HOL.out
      have HFM := hid f1
      have HKN : Hd (0 < n → (L.foldl putM (newM id)).kn = true) := hid (fun h => f2 (fun e => by rw [← HNL.out, e] at h; exact Nat.lt_irrefl 0 h))
      have HHV : Hd (∀ k, k < nx → hv.getD k false = (L.foldl putM (newM id)).hv.getD k false) := hid (fun k hk => by rw [HM.out k hk, btw_nil, Bool.or_false, f3 k]; rfl)
      clear f1 f2 f3 HM
      generalize hM : L.foldl putM (newM id) = M at *
      clear hM hin hi
      have HOK := hid HFM.out.ok
      clear SL
      have HN' : Hd (NibF V) := hid (HN.out.keep hk (fun b h1 h2 h3 => by omega))
      have H1' : Hd (Sl (fun b => b < w.heap.size) V v1 (u8s l1)) := hid (H1.out.keep hk (fun b h1 h2 h3 => by omega))
      have HS' : Hd (Sl (fun b => b < w.heap.size) V vs (i64s sizes)) := hid (HS.out.keep hk (fun b h1 h2 h3 => by omega))
      have HO' : Hd (Sl (fun b => b < w.heap.size) V vo (i64s order)) := hid (HO.out.keep hk (fun b h1 h2 h3 => by omega))
      have SM' : Hd (Sl (fun b => b < w.heap.size) V (.slice ma nx mc) (u8s x)) := hid (SM.out.keep hk (fun b h1 h2 h3 => by omega))
      clear HN H1 HS HO SM
      have HN := HN'
      clear HN'
      have H1 := H1'
      clear H1'
      have HS := HS'
      clear HS'
      have HO := HO'
      clear HO'
      have SM := SM'
      clear SM'
      have HK' : Hd (Keeps (fun _ => False) w V) := hid (HK.out.trans' hk (fun i hi h => by omega))
      clear HK
      have HK := HK'
      clear HK'
      have z_V := hk.size
      clear hk
      obtain ⟨G, hG⟩ : ∃ G, gapsM M = G := ⟨_, rfl⟩
      have HG := hid hG
      obtain ⟨gl, gb⟩ := gapsM_ok HOK.out
      rw [hG] at gl gb
      have HGL := hid gl; have HGB := hid gb
      clear hG gl gb
      go_wp2_with fail
      refine (Gaps_any _ _ M _ HP.out HOK.out).mono ?_
      rw [HG.out]
      rintro e W3 ⟨ga, gc, rfl, hgo, hk⟩
      have SG : Hd (Gps (fun b => V.heap.size ≤ b) _ (.slice ga G.length gc) G) := hid hgo.row
      clear hgo
      have HN' : Hd (NibF W3) := hid (HN.out.keep hk (fun _ _ _ h => h))
      have H1' : Hd (Sl (fun b => b < w.heap.size) W3 v1 (u8s l1)) := hid (H1.out.keep hk (fun _ _ _ h => h))
      have HS' : Hd (Sl (fun b => b < w.heap.size) W3 vs (i64s sizes)) := hid (HS.out.keep hk (fun _ _ _ h => h))
      have HO' : Hd (Sl (fun b => b < w.heap.size) W3 vo (i64s order)) := hid (HO.out.keep hk (fun _ _ _ h => h))
      have SM' : Hd (Sl (fun b => b < w.heap.size) W3 (.slice ma nx mc) (u8s x)) := hid (SM.out.keep hk (fun _ _ _ h => h))
      have HP' : Hd (PartR (fun b => (b = w.heap.size ∨ WH.heap.size ≤ b) ∧ b < V.heap.size) W3 (w.heap.size) M) := hid (HP.out.keep hk (fun _ _ _ h => h))
      have OH' : Hd (OwB W3 (W2.heap.size) nx hv) := hid (OH.out.keep hk (fun _ _ _ h => h))
      clear HN H1 HS HO SM HP OH
      have HN := HN'
      clear HN'
      have H1 := H1'
      clear H1'
      have HS := HS'
      clear HS'
      have HO := HO'
      clear HO'
      have SM := SM'
      clear SM'
      have HP := HP'
      clear HP'
      have OH := OH'
      clear OH'
      have HK' : Hd (Keeps (fun _ => False) w W3) := hid (HK.out.trans hk)
      clear HK
      have HK := HK'
      clear HK'
      have z_W3 := hk.size
      clear hk
      by_cases hn0 : 0 < n
      · have hkn := HKN.out hn0
        have HGE : Hd (gapsL M.hv = G) := hid (by rw [← HG.out]; unfold gapsM; rw [if_pos hkn])
        have HHL : Hd (M.hv.length = nx) := hid (by rw [HOK.out.len, (HFM.out.sm hkn).2]; exact HNX.out)
        have HGA := hid (gaps_all M.hv)
        rw [HGE.out, HHL.out] at HGA
        have n0' : (0 : Int) < n := by omega
        obtain ⟨m, hm⟩ : ∃ m, G.length = m := ⟨_, rfl⟩
        rw [hm] at SG ⊢
        have hm2 : m ≤ 65537 := by rw [← hm]; exact HGL.out
        have HGN := hid hm
        clear hm hkn
        go_wp2_with fail
        go_loopw [16, 17] (fun lv iv wr => ∃ (i : Nat) (hv3 : List Bool), lv = .int .i64 (lastU (G.take i)) ∧ iv = .int .i64 i ∧ i ≤ m ∧ Hd (Mk hv3 nx (fun k => M.hv.getD k false || (G.take i).any (inG k)) 0 0) ∧ Hd (OwB wr (W2.heap.size) nx hv3) ∧ Hd (Keeps (fun b => b = W2.heap.size) W3 wr)) (fun _ iv _ => m - (intOf iv).toNat)
        case atStart => exact ⟨0, hv, rfl, rfl, by omega, hid (fun k hk => by rw [HHV.out k hk, btw_nil]; simp), OH, hid (Keeps.refl _ _)⟩
        case round =>
          obtain ⟨V2, hV2⟩ : ∃ V2, V2 = wr := ⟨_, rfl⟩
          subst hV2
          obtain ⟨i, hv3, rfl, rfl, him, HM3, OH3, KV3⟩ := hrel
          by_cases hi : i < m
          · have k1 : (i : Int) < m := by omega
            have k2 : (0 : Int) ≤ i := by omega
            obtain ⟨pr, hpr⟩ : ∃ pr, G[i]? = some pr := ⟨G[i]'(by rw [HGN.out]; exact hi), List.getElem?_eq_getElem _⟩
            obtain ⟨u, t⟩ := pr
            obtain ⟨bg, og, rfl, hbg, hbg2, s0, s1⟩ := gps_at SG.out hpr
            simp only [] at s0 s1
            have g0 := keep_cell KV3.out (fun h => by omega) s0; have g1 := keep_cell KV3.out (fun h => by omega) s1
            have HS1 := hid s1
            clear s0 s1
            obtain ⟨l1', l2'⟩ := HGA.out.2.1 i _ hpr
            obtain ⟨b1', b2', b3'⟩ := HGA.out.2.2.1 _ (List.mem_of_getElem? hpr)
            simp only [] at l1' l2' b1' b2' b3'
            have HLT := hid (lastU_take hpr)
            simp only [] at HLT
            have HFR := hid (fun j h1 h2 => gap_free (M := M) HGE.out hpr (j := j) h1 h2)
            have HAN : Hd (∀ k, (G.take (i + 1)).any (inG k) = ((G.take i).any (inG k) || btw u t k)) := hid (fun k => any_take hpr _)
            obtain ⟨lu, hlu⟩ : ∃ lu, lastU (G.take i) = lu := ⟨_, rfl⟩
            rw [hlu] at l1' ⊢
            clear hlu hpr
            obtain ⟨uN, rfl⟩ : ∃ uN : Nat, u = uN := ⟨u.toNat, by omega⟩
            obtain ⟨tN, rfl⟩ : ∃ tN : Nat, t = tN := ⟨t.toNat, by omega⟩
            have q1 : ¬ ((uN : Int) ≤ lu) := by omega
            have q2 : ¬ ((tN : Int) ≤ (uN : Int)) := by omega
            have q3 : ¬ ((nx : Int) < (tN : Int)) := by omega
            have d1 : ¬ (tN ≤ uN) := by omega
            have d2 : ¬ (nx < tN) := by omega
            have d3 : tN ≤ nx := by omega
            have d4 : uN < tN := by omega
            clear l2' b1' b2' b3'
            go_upto_region 22 with fail
            go_quiet (fail)
            go_wp2_with fail
            clear g0 g1
            go_loopw [18] (fun iv wr => ∃ (j : Nat) (hv4 : List Bool), iv = .int .i64 j ∧ uN ≤ j ∧ j ≤ tN ∧ Hd (Mk hv4 nx (fun k => M.hv.getD k false || (G.take i).any (inG k)) uN j) ∧ Hd (OwB wr (W2.heap.size) nx hv4) ∧ Hd (Keeps (fun b => b = W2.heap.size) W3 wr)) (fun iv _ => tN - (intOf iv).toNat)
            case atStart => exact ⟨uN, hv3, rfl, by omega, by omega, hid (fun k hk => by rw [HM3.out k hk, btw_nil, btw_nil]), hid OH3.out, hid (by first | exact KV3.out.drewN _ | exact KV3.out.drew | exact KV3.out)⟩
            case round =>
              obtain ⟨j, hv4, rfl, hj1, hj2, HM4, OH4, KV4⟩ := hrel
              have g1 := keep_cell KV4.out (fun h => by omega) HS1.out
              by_cases hjt : j < tN
              · have j1 : (j : Int) < tN := by omega
                have j2 : (0 : Int) ≤ j := by omega
                have j3 : j < nx := by omega
                obtain ⟨c1, c2, c3⟩ := OH4.out.at j3
                have e4 : hv4.getD j false = false := by rw [HM4.out j j3, btw_end, Bool.or_false]; exact HFR.out j (by omega) (by omega)
                rw [e4] at c1
                have HO5 := hid (c3 true)
                have HM5 := hid (mk_step HM4.out OH4.out.2 (by omega) (rfl : (j : Int) = j) j3)
                have HK5 := hid (KV4.out.trans (keeps_set (fun b => b = W2.heap.size) wr ⟨W2.heap.size, j, none⟩ (.bool true) rfl))
                clear c3 e4
                go_wp2
                go_roundw
                case rel => exact ⟨j + 1, hv4.set j true, by go_num, by omega, by omega, hid (by have := HM5.out; rw [show ((j + 1 : Nat) : Int) = (j : Int) + 1 by omega]; exact this), HO5, HK5⟩
                case measure => simp [intOf]; omega
              · have hje : j = tN := by omega
                have j1 : ¬ ((j : Int) < tN) := by omega
                have HMF : Hd (Mk hv4 nx (fun k => M.hv.getD k false || (G.take (i + 1)).any (inG k)) 0 0) := hid (fun k hk => by have h : hv4.getD k false = ((M.hv.getD k false || (G.take i).any (inG k)) || btw uN j k) := HM4.out k hk; rw [hje] at h; rw [btw_nil, Bool.or_false, h]; show _ = (M.hv.getD k false || (G.take (i + 1)).any (inG k)); rw [HAN.out k, Bool.or_assoc])
                go_wp2
                go_roundw
                case rel => exact ⟨i + 1, hv4, by rw [HLT.out], by go_num, by omega, HMF, OH4, KV4⟩
                case measure => simp [intOf]; omega
          · have hie : i = m := by omega
            have k0 : ¬ ((i : Int) < m) := by omega
            have HALL : Hd (∀ k, k < nx → hv3.getD k false = true) := hid (fun k hk => by rw [HM3.out k hk, btw_nil, Bool.or_false]; show (M.hv.getD k false || (G.take i).any (inG k)) = true; rw [List.take_of_length_le (by rw [HGN.out]; omega)]; cases hc : M.hv.getD k false with | true => rfl | false => obtain ⟨p, hp, h1, h2⟩ := (HGA.out.1 k hk).1 hc; rw [Bool.false_or, List.any_eq_true]; exact ⟨p, hp, by unfold inG btw; rw [decide_eq_true h1, decide_eq_true h2]; rfl⟩)
            clear HM3 him hi
            go_wp2_with fail
            go_loopw [19] (fun iv wr => ∃ k : Nat, iv = .int .i64 k ∧ k ≤ nx ∧ wr = V2) (fun iv _ => nx - (intOf iv).toNat)
            case atStart => exact ⟨0, rfl, Nat.zero_le _, rfl⟩
            case round =>
              obtain ⟨k, rfl, hk, rfl⟩ := hrel
              by_cases hkn : k < nx
              · have q1 : (k : Int) < nx := by omega
                have q2 : (0 : Int) ≤ k := by omega
                obtain ⟨c1, c2, -⟩ := OH3.out.at hkn
                rw [HALL.out k hkn] at c1
                go_wp2
                go_roundw
                case rel => exact ⟨k + 1, by go_num, by omega, by first | trivial | rfl⟩
                case measure => simp [intOf]; omega
              · have q0 : ¬ ((k : Int) < nx) := by omega
                have hk := KV3.out
                clear OH
                obtain ⟨W4, hV9⟩ : ∃ V, V = wr := ⟨_, rfl⟩
                subst hV9
                clear OH3
                have HN' : Hd (NibF W4) := hid (HN.out.keep hk (fun b h1 h2 h3 => by omega))
                have H1' : Hd (Sl (fun b => b < w.heap.size) W4 v1 (u8s l1)) := hid (H1.out.keep hk (fun b h1 h2 h3 => by omega))
                have HS' : Hd (Sl (fun b => b < w.heap.size) W4 vs (i64s sizes)) := hid (HS.out.keep hk (fun b h1 h2 h3 => by omega))
                have HO' : Hd (Sl (fun b => b < w.heap.size) W4 vo (i64s order)) := hid (HO.out.keep hk (fun b h1 h2 h3 => by omega))
                have SM' : Hd (Sl (fun b => b < w.heap.size) W4 (.slice ma nx mc) (u8s x)) := hid (SM.out.keep hk (fun b h1 h2 h3 => by omega))
                have HP' : Hd (PartR (fun b => (b = w.heap.size ∨ WH.heap.size ≤ b) ∧ b < V.heap.size) W4 (w.heap.size) M) := hid (HP.out.keep hk (fun b h1 h2 h3 => by omega))
                have SG' : Hd (Gps (fun b => V.heap.size ≤ b) W4 (.slice ga m gc) G) := hid (SG.out.keep hk (fun b h1 h2 h3 => by omega))
                clear HN H1 HS HO SM HP SG
                have HN := HN'
                clear HN'
                have H1 := H1'
                clear H1'
                have HS := HS'
                clear HS'
                have HO := HO'
                clear HO'
                have SM := SM'
                clear SM'
                have HP := HP'
                clear HP'
                have SG := SG'
                clear SG'
                have HK' : Hd (Keeps (fun _ => False) w W4) := hid (HK.out.trans' hk (fun i hi h => by omega))
                clear HK
                have HK := HK'
                clear HK'
                have z_W4 := hk.size
                clear hk
                have egm : m = G.length := HGN.out.symm
                subst egm
                obtain ⟨pb0, pb1⟩ := pick_b order 1 (show (1 : Int) ≤ 256 by omega)
                go_wp2_with fail
                refine (Pick_any _ _ order 1 256 _ HO.out HOR.out (by omega) (by omega) (by omega)).mono ?_
                rintro e wx ⟨rfl, rfl⟩
                generalize pickL order 1 256 = z0 at *
                go_wp2_with fail
                refine (size_any z0 _ (by omega) (by omega)).mono ?_
                rintro e wx ⟨rfl, rfl⟩
                have HSLz : Hd (1 + around z0 256 = sizeL z0) := hid rfl
                have HZBz := hid (sizeL_b z0)
                rw [HSLz.out]
                generalize sizeL z0 = z at *
                clear HSLz
                have e700 : nx = x.length := HNX.out.symm
                subst e700
                clear HNX
                obtain ⟨A, hA⟩ : ∃ A, answerL id x G z = A := ⟨_, rfl⟩
                have HA := hid hA
                have HOA : Hd (∀ s ∈ A, OfF id x s) := hid (by rw [← hA]; exact fun s hs => (answer_of s hs).1)
                obtain ⟨d1, d2⟩ := answer_done (show x.length ≤ 65536 by omega) HFB.out HZBz.out HFM.out
                rw [HG.out, hA] at d1 d2
                have HGD := hid d1; have HBY := hid d2
                clear hA d1 d2
                go_wp2_with fail
                refine (Answer_any _ _ x G id z _ HN.out (SM.out.mono (fun b h _ => h)) HFB.out (SG.out.mono (fun b h _ => h)) (by have := HGL.out; omega) (by omega)).mono ?_
                rw [HA.out]
                rintro e W5 ⟨ra, rn, rc, rfl, rfl, hrp, hk⟩
                have SL := hid (hrp.sgs.mono (K' := fun b => W4.heap.size ≤ b) (fun b _ h => by rcases h with h | h <;> exact h))
                clear hrp
                have HN' : Hd (NibF W5) := hid (HN.out.keep hk (fun _ _ _ h => h))
                have H1' : Hd (Sl (fun b => b < w.heap.size) W5 v1 (u8s l1)) := hid (H1.out.keep hk (fun _ _ _ h => h))
                have HS' : Hd (Sl (fun b => b < w.heap.size) W5 vs (i64s sizes)) := hid (HS.out.keep hk (fun _ _ _ h => h))
                have HO' : Hd (Sl (fun b => b < w.heap.size) W5 vo (i64s order)) := hid (HO.out.keep hk (fun _ _ _ h => h))
                have SM' : Hd (Sl (fun b => b < w.heap.size) W5 (.slice ma x.length mc) (u8s x)) := hid (SM.out.keep hk (fun _ _ _ h => h))
                have HP' : Hd (PartR (fun b => (b = w.heap.size ∨ WH.heap.size ≤ b) ∧ b < V.heap.size) W5 (w.heap.size) M) := hid (HP.out.keep hk (fun _ _ _ h => h))
                have SG' : Hd (Gps (fun b => V.heap.size ≤ b) W5 (.slice ga G.length gc) G) := hid (SG.out.keep hk (fun _ _ _ h => h))
                clear HN H1 HS HO SM HP SG
                have HN := HN'
                clear HN'
                have H1 := H1'
                clear H1'
                have HS := HS'
                clear HS'
                have HO := HO'
                clear HO'
                have SM := SM'
                clear SM'
                have HP := HP'
                clear HP'
                have SG := SG'
                clear SG'
                have HK' : Hd (Keeps (fun _ => False) w W5) := hid (HK.out.trans hk)
                clear HK
                have HK := HK'
                clear HK'
                have z_W5 := hk.size
                clear hk
                obtain ⟨n, hn⟩ : ∃ n, A.length = n := ⟨_, rfl⟩
                rw [hn] at SL ⊢
                have hal := hn
                clear hn
                have HNL := hid hal
                clear SG
                have hAl : n ≤ 9223372036854775807 := by obtain ⟨a, c, e, q1, q2⟩ := SL.out.form; unfold maxLen at q2; omega
                go_wp2_with fail
                go_loopw [21] (fun iv wr => ∃ k : Nat, iv = .int .i64 k ∧ k ≤ n ∧ Hd (PutSt (fun b => (b = w.heap.size ∨ WH.heap.size ≤ b) ∧ b < V.heap.size) W5 (w.heap.size) ((A.take k).foldl putM M) wr)) (fun iv _ => n - (intOf iv).toNat)
                case atStart => exact ⟨0, rfl, Nat.zero_le _, hid (putSt_start HP.out)⟩
                case round =>
                  obtain ⟨k, rfl, hk, PS⟩ := hrel
                  by_cases hkm : k < n
                  · have k1 : (k : Int) < n := by omega
                    have k2 : (0 : Int) ≤ k := by omega
                    obtain ⟨y, hy⟩ : ∃ y, A[k]? = some y := ⟨A[k]'(by omega), List.getElem?_eq_getElem _⟩
                    obtain ⟨bx, ox, rfl, hbx, hbx2, hcx⟩ := sgs_cells SL.out (by omega)
                    obtain ⟨x0, x1, x2, x3, ad, cd, x4, SX⟩ := hcx k y hy
                    have ps2 := PS.out.2
                    have m0 := keep_cell ps2 (fun h => by omega) x0; have m1 := keep_cell ps2 (fun h => by omega) x1; have m2 := keep_cell ps2 (fun h => by omega) x2; have m3 := keep_cell ps2 (fun h => by omega) x3; have m4 := keep_cell ps2 (fun h => by omega) x4
                    have SXR := hid (SX.keep ps2 (fun b h1 h2 h3 => by omega))
                    have HSX := hid SX
                    have zps := ps2.size
                    obtain ⟨f1, f2, f3⟩ := puts_of (show x.length ≤ 65536 by omega) HFB.out (A.take k) M HFM.out (fun s hs => HOA.out s (List.mem_of_mem_take hs))
                    have HOY := HOA.out y (List.mem_of_getElem? hy)
                    obtain ⟨e0, -, -⟩ := put_of (show x.length ≤ 65536 by omega) HFB.out f1 HOY
                    have HNX : Hd ((A.take (k + 1)).foldl putM M = putM ((A.take k).foldl putM M) y) := hid (by rw [List.take_add_one, hy, List.foldl_append]; rfl)
                    have HOK := hid f1.ok; have HE0 := hid e0; have HYB : Hd (∀ c ∈ y.d, c < 256) := hid (fun c hc => by rw [HOY.d] at hc; exact HFB.out c (List.mem_of_mem_drop (List.mem_of_mem_take hc))); have HY32 : Hd (y.s < 4294967296) := hid (by rw [HOY.s]; exact Cr.crc_lt HFB.out)
                    have HYL : Hd (y.o + y.d.length ≤ x.length ∧ 0 ≤ y.o) := hid ⟨HOY.e, HOY.o⟩
                    clear x0 x1 x2 x3 x4 hcx SX ps2 f1 f2 f3 e0 HOY
                    generalize hM : (A.take k).foldl putM M = M at *
                    clear hM
                    go_wp2_with fail
                    refine (Put_any _ _ M y ad cd _ PS.out.1 HOK.out (sl_below HSX.out PS.out.2 (fun b h1 h2 h3 => by omega) (fun b h1 h2 => by omega)) HYB.out HY32.out).mono ?_
                    rintro e w2 hpp
                    obtain ⟨rfl, PS2⟩ := putSt_put PS.out hpp
                    rw [HE0.out]
                    rw [← HNX.out] at PS2
                    have HPS := hid PS2
                    clear PS2 hpp PS SXR m0 m1 m2 m3 m4
                    go_wp2
                    go_roundw
                    case rel => exact ⟨k + 1, by go_num, by omega, HPS⟩
                    case measure => simp [intOf]; omega
                  · have hkn : k = n := by omega
                    have k0 : ¬ ((k : Int) < n) := by omega
                    have PS9 : PutSt (fun b => (b = w.heap.size ∨ WH.heap.size ≤ b) ∧ b < V.heap.size) W5 (w.heap.size) (A.foldl putM M) wr := by have h := PS.out; rw [List.take_of_length_le (by omega)] at h; exact h
                    clear hk hkm PS
                    obtain ⟨W6, rfl⟩ : ∃ V, V = wr := ⟨_, rfl⟩
                    obtain ⟨hp9, hk⟩ := PS9
                    clear HP
                    have HP := hid hp9
                    clear hp9
                    have HN' : Hd (NibF W6) := hid (HN.out.keep hk (fun b h1 h2 h3 => by omega))
                    have H1' : Hd (Sl (fun b => b < w.heap.size) W6 v1 (u8s l1)) := hid (H1.out.keep hk (fun b h1 h2 h3 => by omega))
                    have HS' : Hd (Sl (fun b => b < w.heap.size) W6 vs (i64s sizes)) := hid (HS.out.keep hk (fun b h1 h2 h3 => by omega))
                    have HO' : Hd (Sl (fun b => b < w.heap.size) W6 vo (i64s order)) := hid (HO.out.keep hk (fun b h1 h2 h3 => by omega))
                    have SM' : Hd (Sl (fun b => b < w.heap.size) W6 (.slice ma x.length mc) (u8s x)) := hid (SM.out.keep hk (fun b h1 h2 h3 => by omega))
                    have SL' : Hd (Sgs (fun b => W4.heap.size ≤ b) W6 (.slice ra n rc) A) := hid (SL.out.keep hk (fun b h1 h2 h3 => by omega))
                    clear HN H1 HS HO SM SL
                    have HN := HN'
                    clear HN'
                    have H1 := H1'
                    clear H1'
                    have HS := HS'
                    clear HS'
                    have HO := HO'
                    clear HO'
                    have SM := SM'
                    clear SM'
                    have SL := SL'
                    clear SL'
                    have HK' : Hd (Keeps (fun _ => False) w W6) := hid (HK.out.trans' hk (fun i hi h => by omega))
                    clear HK
                    have HK := HK'
                    clear HK'
                    have z_W6 := hk.size
                    clear hk
                    have f1 := (puts_of (show x.length ≤ 65536 by omega) HFB.out A M HFM.out HOA.out).1
                    have HOK9 := hid f1.ok
                    clear f1
                    generalize hM9 : A.foldl putM M = M9 at *
                    clear hM9
                    go_wp2_with fail
                    refine (Bytes_any _ _ M9 _ HN.out HP.out HOK9.out).mono ?_
                    rw [HBY.out]
                    rintro e W7 ⟨ba, bc, rfl, hbo, hk⟩
                    have SB : Hd (Sl (fun _ => True) _ (.slice ba x.length bc) (u8s x)) := hid (row_sl (hbo.row.mono (fun _ _ _ => trivial)) (by simp))
                    clear hbo
                    have HN' : Hd (NibF W7) := hid (HN.out.keep hk (fun _ _ _ h => h))
                    have H1' : Hd (Sl (fun b => b < w.heap.size) W7 v1 (u8s l1)) := hid (H1.out.keep hk (fun _ _ _ h => h))
                    have HS' : Hd (Sl (fun b => b < w.heap.size) W7 vs (i64s sizes)) := hid (HS.out.keep hk (fun _ _ _ h => h))
                    have HO' : Hd (Sl (fun b => b < w.heap.size) W7 vo (i64s order)) := hid (HO.out.keep hk (fun _ _ _ h => h))
                    have SM' : Hd (Sl (fun b => b < w.heap.size) W7 (.slice ma x.length mc) (u8s x)) := hid (SM.out.keep hk (fun _ _ _ h => h))
                    have SL' : Hd (Sgs (fun b => W4.heap.size ≤ b) W7 (.slice ra n rc) A) := hid (SL.out.keep hk (fun _ _ _ h => h))
                    have HP' : Hd (PartR (fun b => ((b = w.heap.size ∨ WH.heap.size ≤ b) ∧ b < V.heap.size) ∨ W5.heap.size ≤ b) W7 (w.heap.size) M9) := hid (HP.out.keep hk (fun _ _ _ h => h))
                    clear HN H1 HS HO SM SL HP
                    have HN := HN'
                    clear HN'
                    have H1 := H1'
                    clear H1'
                    have HS := HS'
                    clear HS'
                    have HO := HO'
                    clear HO'
                    have SM := SM'
                    clear SM'
                    have SL := SL'
                    clear SL'
                    have HP := HP'
                    clear HP'
                    have HK' : Hd (Keeps (fun _ => False) w W7) := hid (HK.out.trans hk)
                    clear HK
                    have HK := HK'
                    clear HK'
                    have z_W7 := hk.size
                    clear hk
                    go_wp2_with fail
                    refine (SameBytes_any _ _ _ _ x x _ SB.out SM.out HFB.out HFB.out).mono ?_
                    rw [decide_eq_true (rfl : x = x)]
                    rintro e wx ⟨rfl, rfl⟩
                    go_wp2_with fail
                    refine (lives_any _ HN.out).mono ?_
                    rintro e W8 ⟨rfl, hk⟩
                    have HN' : Hd (NibF W8) := hid (HN.out.keep hk (fun _ _ _ h => h))
                    have H1' : Hd (Sl (fun b => b < w.heap.size) W8 v1 (u8s l1)) := hid (H1.out.keep hk (fun _ _ _ h => h))
                    have HS' : Hd (Sl (fun b => b < w.heap.size) W8 vs (i64s sizes)) := hid (HS.out.keep hk (fun _ _ _ h => h))
                    have HO' : Hd (Sl (fun b => b < w.heap.size) W8 vo (i64s order)) := hid (HO.out.keep hk (fun _ _ _ h => h))
                    have SM' : Hd (Sl (fun b => b < w.heap.size) W8 (.slice ma x.length mc) (u8s x)) := hid (SM.out.keep hk (fun _ _ _ h => h))
                    have SL' : Hd (Sgs (fun b => W4.heap.size ≤ b) W8 (.slice ra n rc) A) := hid (SL.out.keep hk (fun _ _ _ h => h))
                    have HP' : Hd (PartR (fun b => ((b = w.heap.size ∨ WH.heap.size ≤ b) ∧ b < V.heap.size) ∨ W5.heap.size ≤ b) W8 (w.heap.size) M9) := hid (HP.out.keep hk (fun _ _ _ h => h))
                    have SB' : Hd (Sl (fun _ => True) W8 (.slice ba x.length bc) (u8s x)) := hid (SB.out.keep hk (fun _ _ _ h => h))
                    clear HN H1 HS HO SM SL HP SB
                    have HN := HN'
                    clear HN'
                    have H1 := H1'
                    clear H1'
                    have HS := HS'
                    clear HS'
                    have HO := HO'
                    clear HO'
                    have SM := SM'
                    clear SM'
                    have SL := SL'
                    clear SL'
                    have HP := HP'
                    clear HP'
                    have SB := SB'
                    clear SB'
                    have HK' : Hd (Keeps (fun _ => False) w W8) := hid (HK.out.trans hk)
                    clear HK
                    have HK := HK'
                    clear HK'
                    have z_W8 := hk.size
                    clear hk
                    go_wp2
                    go_ret
                    exact ⟨rfl, HK.out⟩
      · have n0' : ¬ ((0 : Int) < n) := by omega
        obtain rfl : n = 0 := by omega
        clear OH
        obtain ⟨pb0, pb1⟩ := pick_b order 1 (show (1 : Int) ≤ 256 by omega)
        go_wp2_with fail
        refine (Pick_any _ _ order 1 256 _ HO.out HOR.out (by omega) (by omega) (by omega)).mono ?_
        rintro e wx ⟨rfl, rfl⟩
        generalize pickL order 1 256 = z0 at *
        go_wp2_with fail
        refine (size_any z0 _ (by omega) (by omega)).mono ?_
        rintro e wx ⟨rfl, rfl⟩
        have HSLz : Hd (1 + around z0 256 = sizeL z0) := hid rfl
        have HZBz := hid (sizeL_b z0)
        rw [HSLz.out]
        generalize sizeL z0 = z at *
        clear HSLz
        have e700 : nx = x.length := HNX.out.symm
        subst e700
        clear HNX
        obtain ⟨A, hA⟩ : ∃ A, answerL id x G z = A := ⟨_, rfl⟩
        have HA := hid hA
        have HOA : Hd (∀ s ∈ A, OfF id x s) := hid (by rw [← hA]; exact fun s hs => (answer_of s hs).1)
        obtain ⟨d1, d2⟩ := answer_done (show x.length ≤ 65536 by omega) HFB.out HZBz.out HFM.out
        rw [HG.out, hA] at d1 d2
        have HGD := hid d1; have HBY := hid d2
        clear hA d1 d2
        go_wp2_with fail
        refine (Answer_any _ _ x G id z _ HN.out (SM.out.mono (fun b h _ => h)) HFB.out (SG.out.mono (fun b h _ => h)) (by have := HGL.out; omega) (by omega)).mono ?_
        rw [HA.out]
        rintro e W4 ⟨ra, rn, rc, rfl, rfl, hrp, hk⟩
        have SL := hid (hrp.sgs.mono (K' := fun b => W3.heap.size ≤ b) (fun b _ h => by rcases h with h | h <;> exact h))
        clear hrp
        have HN' : Hd (NibF W4) := hid (HN.out.keep hk (fun _ _ _ h => h))
        have H1' : Hd (Sl (fun b => b < w.heap.size) W4 v1 (u8s l1)) := hid (H1.out.keep hk (fun _ _ _ h => h))
        have HS' : Hd (Sl (fun b => b < w.heap.size) W4 vs (i64s sizes)) := hid (HS.out.keep hk (fun _ _ _ h => h))
        have HO' : Hd (Sl (fun b => b < w.heap.size) W4 vo (i64s order)) := hid (HO.out.keep hk (fun _ _ _ h => h))
        have SM' : Hd (Sl (fun b => b < w.heap.size) W4 (.slice ma x.length mc) (u8s x)) := hid (SM.out.keep hk (fun _ _ _ h => h))
        have HP' : Hd (PartR (fun b => (b = w.heap.size ∨ WH.heap.size ≤ b) ∧ b < V.heap.size) W4 (w.heap.size) M) := hid (HP.out.keep hk (fun _ _ _ h => h))
        have SG' : Hd (Gps (fun b => V.heap.size ≤ b) W4 (.slice ga G.length gc) G) := hid (SG.out.keep hk (fun _ _ _ h => h))
        clear HN H1 HS HO SM HP SG
        have HN := HN'
        clear HN'
        have H1 := H1'
        clear H1'
        have HS := HS'
        clear HS'
        have HO := HO'
        clear HO'
        have SM := SM'
        clear SM'
        have HP := HP'
        clear HP'
        have SG := SG'
        clear SG'
        have HK' : Hd (Keeps (fun _ => False) w W4) := hid (HK.out.trans hk)
        clear HK
        have HK := HK'
        clear HK'
        have z_W4 := hk.size
        clear hk
        obtain ⟨n, hn⟩ : ∃ n, A.length = n := ⟨_, rfl⟩
        rw [hn] at SL ⊢
        have hal := hn
        clear hn
        have HNL := hid hal
        clear SG
        have hAl : n ≤ 9223372036854775807 := by obtain ⟨a, c, e, q1, q2⟩ := SL.out.form; unfold maxLen at q2; omega
        go_wp2_with fail
        go_loopw [21] (fun iv wr => ∃ k : Nat, iv = .int .i64 k ∧ k ≤ n ∧ Hd (PutSt (fun b => (b = w.heap.size ∨ WH.heap.size ≤ b) ∧ b < V.heap.size) W4 (w.heap.size) ((A.take k).foldl putM M) wr)) (fun iv _ => n - (intOf iv).toNat)
        case atStart => exact ⟨0, rfl, Nat.zero_le _, hid (putSt_start HP.out)⟩
        case round =>
          obtain ⟨k, rfl, hk, PS⟩ := hrel
          by_cases hkm : k < n
          · have k1 : (k : Int) < n := by omega
            have k2 : (0 : Int) ≤ k := by omega
            obtain ⟨y, hy⟩ : ∃ y, A[k]? = some y := ⟨A[k]'(by omega), List.getElem?_eq_getElem _⟩
            obtain ⟨bx, ox, rfl, hbx, hbx2, hcx⟩ := sgs_cells SL.out (by omega)
            obtain ⟨x0, x1, x2, x3, ad, cd, x4, SX⟩ := hcx k y hy
            have ps2 := PS.out.2
            have m0 := keep_cell ps2 (fun h => by omega) x0; have m1 := keep_cell ps2 (fun h => by omega) x1; have m2 := keep_cell ps2 (fun h => by omega) x2; have m3 := keep_cell ps2 (fun h => by omega) x3; have m4 := keep_cell ps2 (fun h => by omega) x4
            have SXR := hid (SX.keep ps2 (fun b h1 h2 h3 => by omega))
            have HSX := hid SX
            have zps := ps2.size
            obtain ⟨f1, f2, f3⟩ := puts_of (show x.length ≤ 65536 by omega) HFB.out (A.take k) M HFM.out (fun s hs => HOA.out s (List.mem_of_mem_take hs))
            have HOY := HOA.out y (List.mem_of_getElem? hy)
            obtain ⟨e0, -, -⟩ := put_of (show x.length ≤ 65536 by omega) HFB.out f1 HOY
            have HNX : Hd ((A.take (k + 1)).foldl putM M = putM ((A.take k).foldl putM M) y) := hid (by rw [List.take_add_one, hy, List.foldl_append]; rfl)
            have HOK := hid f1.ok; have HE0 := hid e0; have HYB : Hd (∀ c ∈ y.d, c < 256) := hid (fun c hc => by rw [HOY.d] at hc; exact HFB.out c (List.mem_of_mem_drop (List.mem_of_mem_take hc))); have HY32 : Hd (y.s < 4294967296) := hid (by rw [HOY.s]; exact Cr.crc_lt HFB.out)
            have HYL : Hd (y.o + y.d.length ≤ x.length ∧ 0 ≤ y.o) := hid ⟨HOY.e, HOY.o⟩
            clear x0 x1 x2 x3 x4 hcx SX ps2 f1 f2 f3 e0 HOY
            generalize hM : (A.take k).foldl putM M = M at *
            clear hM
            go_wp2_with fail
            refine (Put_any _ _ M y ad cd _ PS.out.1 HOK.out (sl_below HSX.out PS.out.2 (fun b h1 h2 h3 => by omega) (fun b h1 h2 => by omega)) HYB.out HY32.out).mono ?_
            rintro e w2 hpp
            obtain ⟨rfl, PS2⟩ := putSt_put PS.out hpp
            rw [HE0.out]
            rw [← HNX.out] at PS2
            have HPS := hid PS2
            clear PS2 hpp PS SXR m0 m1 m2 m3 m4
            go_wp2
            go_roundw
            case rel => exact ⟨k + 1, by go_num, by omega, HPS⟩
            case measure => simp [intOf]; omega
          · have hkn : k = n := by omega
            have k0 : ¬ ((k : Int) < n) := by omega
            have PS9 : PutSt (fun b => (b = w.heap.size ∨ WH.heap.size ≤ b) ∧ b < V.heap.size) W4 (w.heap.size) (A.foldl putM M) wr := by have h := PS.out; rw [List.take_of_length_le (by omega)] at h; exact h
            clear hk hkm PS
            obtain ⟨W5, rfl⟩ : ∃ V, V = wr := ⟨_, rfl⟩
            obtain ⟨hp9, hk⟩ := PS9
            clear HP
            have HP := hid hp9
            clear hp9
            have HN' : Hd (NibF W5) := hid (HN.out.keep hk (fun b h1 h2 h3 => by omega))
            have H1' : Hd (Sl (fun b => b < w.heap.size) W5 v1 (u8s l1)) := hid (H1.out.keep hk (fun b h1 h2 h3 => by omega))
            have HS' : Hd (Sl (fun b => b < w.heap.size) W5 vs (i64s sizes)) := hid (HS.out.keep hk (fun b h1 h2 h3 => by omega))
            have HO' : Hd (Sl (fun b => b < w.heap.size) W5 vo (i64s order)) := hid (HO.out.keep hk (fun b h1 h2 h3 => by omega))
            have SM' : Hd (Sl (fun b => b < w.heap.size) W5 (.slice ma x.length mc) (u8s x)) := hid (SM.out.keep hk (fun b h1 h2 h3 => by omega))
            have SL' : Hd (Sgs (fun b => W3.heap.size ≤ b) W5 (.slice ra n rc) A) := hid (SL.out.keep hk (fun b h1 h2 h3 => by omega))
            clear HN H1 HS HO SM SL
            have HN := HN'
            clear HN'
            have H1 := H1'
            clear H1'
            have HS := HS'
            clear HS'
            have HO := HO'
            clear HO'
            have SM := SM'
            clear SM'
            have SL := SL'
            clear SL'
            have HK' : Hd (Keeps (fun _ => False) w W5) := hid (HK.out.trans' hk (fun i hi h => by omega))
            clear HK
            have HK := HK'
            clear HK'
            have z_W5 := hk.size
            clear hk
            have f1 := (puts_of (show x.length ≤ 65536 by omega) HFB.out A M HFM.out HOA.out).1
            have HOK9 := hid f1.ok
            clear f1
            generalize hM9 : A.foldl putM M = M9 at *
            clear hM9
            go_wp2_with fail
            refine (Bytes_any _ _ M9 _ HN.out HP.out HOK9.out).mono ?_
            rw [HBY.out]
            rintro e W6 ⟨ba, bc, rfl, hbo, hk⟩
            have SB : Hd (Sl (fun _ => True) _ (.slice ba x.length bc) (u8s x)) := hid (row_sl (hbo.row.mono (fun _ _ _ => trivial)) (by simp))
            clear hbo
            have HN' : Hd (NibF W6) := hid (HN.out.keep hk (fun _ _ _ h => h))
            have H1' : Hd (Sl (fun b => b < w.heap.size) W6 v1 (u8s l1)) := hid (H1.out.keep hk (fun _ _ _ h => h))
            have HS' : Hd (Sl (fun b => b < w.heap.size) W6 vs (i64s sizes)) := hid (HS.out.keep hk (fun _ _ _ h => h))
            have HO' : Hd (Sl (fun b => b < w.heap.size) W6 vo (i64s order)) := hid (HO.out.keep hk (fun _ _ _ h => h))
            have SM' : Hd (Sl (fun b => b < w.heap.size) W6 (.slice ma x.length mc) (u8s x)) := hid (SM.out.keep hk (fun _ _ _ h => h))
            have SL' : Hd (Sgs (fun b => W3.heap.size ≤ b) W6 (.slice ra n rc) A) := hid (SL.out.keep hk (fun _ _ _ h => h))
            have HP' : Hd (PartR (fun b => ((b = w.heap.size ∨ WH.heap.size ≤ b) ∧ b < V.heap.size) ∨ W4.heap.size ≤ b) W6 (w.heap.size) M9) := hid (HP.out.keep hk (fun _ _ _ h => h))
            clear HN H1 HS HO SM SL HP
            have HN := HN'
            clear HN'
            have H1 := H1'
            clear H1'
            have HS := HS'
            clear HS'
            have HO := HO'
            clear HO'
            have SM := SM'
            clear SM'
            have SL := SL'
            clear SL'
            have HP := HP'
            clear HP'
            have HK' : Hd (Keeps (fun _ => False) w W6) := hid (HK.out.trans hk)
            clear HK
            have HK := HK'
            clear HK'
            have z_W6 := hk.size
            clear hk
            go_wp2_with fail
            refine (SameBytes_any _ _ _ _ x x _ SB.out SM.out HFB.out HFB.out).mono ?_
            rw [decide_eq_true (rfl : x = x)]
            rintro e wx ⟨rfl, rfl⟩
            go_wp2_with fail
            refine (lives_any _ HN.out).mono ?_
            rintro e W7 ⟨rfl, hk⟩
            have HN' : Hd (NibF W7) := hid (HN.out.keep hk (fun _ _ _ h => h))
            have H1' : Hd (Sl (fun b => b < w.heap.size) W7 v1 (u8s l1)) := hid (H1.out.keep hk (fun _ _ _ h => h))
            have HS' : Hd (Sl (fun b => b < w.heap.size) W7 vs (i64s sizes)) := hid (HS.out.keep hk (fun _ _ _ h => h))
            have HO' : Hd (Sl (fun b => b < w.heap.size) W7 vo (i64s order)) := hid (HO.out.keep hk (fun _ _ _ h => h))
            have SM' : Hd (Sl (fun b => b < w.heap.size) W7 (.slice ma x.length mc) (u8s x)) := hid (SM.out.keep hk (fun _ _ _ h => h))
            have SL' : Hd (Sgs (fun b => W3.heap.size ≤ b) W7 (.slice ra n rc) A) := hid (SL.out.keep hk (fun _ _ _ h => h))
            have HP' : Hd (PartR (fun b => ((b = w.heap.size ∨ WH.heap.size ≤ b) ∧ b < V.heap.size) ∨ W4.heap.size ≤ b) W7 (w.heap.size) M9) := hid (HP.out.keep hk (fun _ _ _ h => h))
            have SB' : Hd (Sl (fun _ => True) W7 (.slice ba x.length bc) (u8s x)) := hid (SB.out.keep hk (fun _ _ _ h => h))
            clear HN H1 HS HO SM SL HP SB
            have HN := HN'
            clear HN'
            have H1 := H1'
            clear H1'
            have HS := HS'
            clear HS'
            have HO := HO'
            clear HO'
            have SM := SM'
            clear SM'
            have SL := SL'
            clear SL'
            have HP := HP'
            clear HP'
            have SB := SB'
            clear SB'
            have HK' : Hd (Keeps (fun _ => False) w W7) := hid (HK.out.trans hk)
            clear HK
            have HK := HK'
            clear HK'
            have z_W7 := hk.size
            clear hk
            go_wp2
            go_ret
            exact ⟨rfl, HK.out⟩
end Go.Proofs.YtgeicbjlichdgaaDoor
