/- TopCustody: Create. -/
import Derived.Test.YtgfekgceeigdiaaDoorTopD
namespace Go.Proofs.YtgfekgceeigdiaaDoor
open Go.RowKit
attribute [local go_sem ↓] Go.wp_at_zero Go.wp_at_succ
/-- bundles in a row of the call's own, all of it in K -/
def BuQ (K : Nat → Prop) (w : World) (v : Value) (l : List Bu) : Prop := ∃ xs, Own (fun b => v.ownBlock = some b ∧ K b) w 59 8 v l.length xs ∧ BuC (fun b => K b ∧ v.ownBlock ≠ some b) w xs l
theorem BuQ.keep {K S : Nat → Prop} {w w' : World} {v : Value} {l : List Bu} (h : BuQ K w v l) (hk : Keeps S w w') (hd : ∀ b, b < w.heap.size → K b → ¬ S b) : BuQ K w' v l := by
  obtain ⟨xs, h1, h2⟩ := h
  exact ⟨xs, h1.keep hk (fun b hb hh => hd b hb hh.2), h2.keep hk (fun b hb hh => hd b hb hh.1)⟩
theorem BuQ.bus {K : Nat → Prop} {w : World} {v : Value} {l : List Bu} (h : BuQ K w v l) : Bus K w v l := by
  obtain ⟨xs, h1, h2⟩ := h
  exact ⟨xs, h1.row.mono (fun b _ hb => hb.2), h2.mono (fun b _ hb => hb.1)⟩
theorem BuP.buq {KD K : Nat → Prop} {B : Nat} {w : World} {v : Value} {l : List Bu} (h : BuP KD B w v l) (h1 : ∀ b, b < w.heap.size → KD b → K b) (h2 : ∀ b, b < w.heap.size → B ≤ b → K b) : BuQ K w v l := by
  obtain ⟨xs, g1, g2, g3⟩ := h
  exact ⟨xs, g1.mono (fun b hb hh => ⟨hh, h2 b hb (g2 b hh)⟩), g3.mono (fun b hb hh => ⟨h1 b hb hh.1, hh.2⟩)⟩
theorem buq_append {K : Nat → Prop} {wr V w7 : World} {v v7 : Value} {l m : List Bu} {xs ns : List Value}
    (ho : ∀ b, v.ownBlock = some b → K b) (hc : BuC (fun b => K b ∧ v.ownBlock ≠ some b) wr xs l)
    (hV : Keeps (fun _ => False) wr V) (hs : BuC (fun b => K b ∧ v.ownBlock ≠ some b) V ns m) (hB : ∀ b, V.heap.size ≤ b → K b)
    (h7 : Own (fun k => v.ownBlock = some k ∨ V.heap.size ≤ k) w7 59 8 v7 (l.length + m.length) (xs ++ ns)) (hk7 : Keeps (fun b => v.ownBlock = some b) V w7) :
    BuQ K w7 v7 (l ++ m) := by
  have key : ∀ b, b < V.heap.size → (K b ∧ v.ownBlock ≠ some b) → (K b ∧ v7.ownBlock ≠ some b) ∧ v.ownBlock ≠ some b := fun b hb h => ⟨⟨h.1, fun e => by
    rcases h7.2 b e with h' | h'
    · exact h.2 h'
    · omega⟩, h.2⟩
  refine ⟨_, ⟨by rw [List.length_append]; exact h7.1, fun b hb => ⟨hb, ?_⟩⟩, ?_⟩
  · rcases h7.2 b hb with h | h
    · exact ho b h
    · exact hB b h
  · exact ((((hc.keep hV (fun _ _ _ h => h)).append hs).mono key).keep hk7 (fun b _ h1 h2 => h1.2 h2)).mono (fun b _ h => h.1)
set_option maxRecDepth 100000 in set_option maxHeartbeats 1000000 in
theorem Create_dup (K : Nat → Prop) (q : Int) (bs : List Bu) (ps sn : List Int) (x : Bu) (ab ap aq ad : Option Addr) (cb cp cq cd : Nat) (w : World) (hb : Bus K w (.slice ab bs.length cb) bs) (hp : Sl K w (.slice ap ps.length cp) (i64s ps)) (hs : Sl K w (.slice aq sn.length cq) (i64s sn)) (hx : Sl K w (.slice ad x.d.length cd) (u8s x.d))
    (l1 : bs.length ≤ 63) (l2 : ps.length ≤ 1000) (l3 : sn.length ≤ 1000) (hd : ∀ x ∈ bs, x.d.length ≤ 256) (hdx : x.d.length ≤ 256) (hss : sn.Pairwise (· < ·)) (hi : x.i ∈ sn) :
    Calls Tryd.prog 13 #[.agg #[.int .i64 q, .slice ab bs.length cb, .slice ap ps.length cp, .slice aq sn.length cq], .agg #[.int .i64 x.i, .int .i64 x.f, .int .i64 x.t, .int .i64 x.g, .int .i64 x.o, .int .i64 x.a, .int .u32 (x.s : Int), .slice ad x.d.length cd]] w fun e w' => e = .returned (.tuple #[.agg #[.int .i64 0, .slice none 0 0, .slice none 0 0, .slice none 0 0], .int .i64 4]) ∧ Keeps (fun _ => False) w w' := by
  have hc : Hd (sn.contains x.i = true) := hid (by simpa using hi)
  clear hi
  have HB := hid (hb.mono (K' := fun b => b < w.heap.size) (fun b h _ => h)); have HP := hid (hp.mono (K' := fun b => b < w.heap.size) (fun b h _ => h)); have HS := hid (hs.mono (K' := fun b => b < w.heap.size) (fun b h _ => h)); have HX := hid (hx.mono (K' := fun b => b < w.heap.size) (fun b h _ => h)); have HD := hid hd; have HSS := hid hss
  clear hb hp hs hd hx hss
  obtain ⟨n, hn⟩ : ∃ n, bs.length = n := ⟨_, rfl⟩
  obtain ⟨np, hnp⟩ : ∃ n, ps.length = n := ⟨_, rfl⟩
  obtain ⟨ns, hns⟩ : ∃ n, sn.length = n := ⟨_, rfl⟩
  obtain ⟨dn, hdn⟩ : ∃ n, x.d.length = n := ⟨_, rfl⟩
  have HN := hid hn; have HNP := hid hnp; have HNS := hid hns; have HDN := hid hdn
  rw [hn] at HB l1 ⊢
  rw [hnp] at HP l2 ⊢
  rw [hns] at HS l3 ⊢
  rw [hdn] at HX hdx ⊢
  clear hn hnp hns hdn
  go_enter Tryd.func13, Tryd.ntmps13
  go_upto_region 1 with fail
  generalize hW : World.alloc (World.alloc (World.alloc w _) _) _ = W1
  have KS : Hd (Keeps (fun _ => False) w W1) := hid (by rw [← hW]; exact (Keeps.alloc (Keeps.alloc (Keeps.alloc (Keeps.refl (fun _ => False) w) _) _) _))
  have HB' : Hd (Bus (fun b => b < w.heap.size) W1 (.slice ab n cb) bs) := hid (HB.out.keep KS.out (fun _ _ _ h => h))
  have HP' : Hd (Sl (fun b => b < w.heap.size) W1 (.slice ap np cp) (i64s ps)) := hid (HP.out.keep KS.out (fun _ _ _ h => h))
  have HS' : Hd (Sl (fun b => b < w.heap.size) W1 (.slice aq ns cq) (i64s sn)) := hid (HS.out.keep KS.out (fun _ _ _ h => h))
  have HX' : Hd (Sl (fun b => b < w.heap.size) W1 (.slice ad dn cd) (u8s x.d)) := hid (HX.out.keep KS.out (fun _ _ _ h => h))
  have BA : Hd (Blk W1 w.heap.size #[(.int .i64 q), (.slice ab n cb), (.slice ap np cp), (.slice aq ns cq)] 44) := hid (by rw [← hW]; exact (blk_alloc (blk_alloc (blk_new _ _ _) _) _))
  have BB : Hd (Blk W1 (w.heap.size + 1) #[(.int .i64 x.i), (.int .i64 x.f), (.int .i64 x.t), (.int .i64 x.g), (.int .i64 x.o), (.int .i64 x.a), (.int .u32 (x.s : Int)), (.slice ad dn cd)] 59) := hid (by rw [← hW]; exact (blk_alloc (blk_new' _ _ _ _ (by simp)) _))
  have BR : Hd (Blk W1 (w.heap.size + 1 + 1) #[(.int .i64 0), (.slice none 0 0), (.slice none 0 0), (.slice none 0 0)] 44) := hid (by rw [← hW]; exact (blk_new' _ _ _ _ (by simp)))
  clear HB HP HS HX
  have HB := HB'
  clear HB'
  have HP := HP'
  clear HP'
  have HS := HS'
  clear HS'
  have HX := HX'
  clear HX'
  have HK : Hd (Keeps (fun _ => False) w W1) := hid KS.out
  have z_W1 : w.heap.size + 3 ≤ W1.heap.size := by rw [← hW]; simp
  clear hW KS
  generalize hb_BR : w.heap.size + 1 + 1 = b_BR at *
  generalize hb_BB : w.heap.size + 1 = b_BB at *
  have q0 : ¬ ((256 : Int) < dn) := by omega
  have o_BB_0 : W1.cell? ⟨b_BB, 0, none⟩ = some ((.int .i64 x.i)) := blk_cell BB.out 0
  have o_BB_7 : W1.cell? ⟨b_BB, 7, none⟩ = some ((.slice ad dn cd)) := blk_cell BB.out 7
  have o_BA_1 : W1.cell? ⟨w.heap.size, 1, none⟩ = some ((.slice ab n cb)) := blk_cell BA.out 1
  have o_BA_3 : W1.cell? ⟨w.heap.size, 3, none⟩ = some ((.slice aq ns cq)) := blk_cell BA.out 3
  go_wp2_with fail
  refine (has_any _ _ sn x.i _ HS.out (by rw [HNS.out]; omega) (sorted_le HSS.out)).mono ?_
  rw [hc.out]
  rintro e wx ⟨rfl, hdr⟩
  have hk := drawn_keeps (fun _ => False) hdr
  clear hdr
  obtain ⟨W2, rfl⟩ : ∃ V, V = wx := ⟨_, rfl⟩
  clear o_BB_0 o_BB_7 o_BA_1 o_BA_3
  have HB' : Hd (Bus (fun b => b < w.heap.size) W2 (.slice ab n cb) bs) := hid (HB.out.keep hk (fun _ _ _ h => h))
  have HP' : Hd (Sl (fun b => b < w.heap.size) W2 (.slice ap np cp) (i64s ps)) := hid (HP.out.keep hk (fun _ _ _ h => h))
  have HS' : Hd (Sl (fun b => b < w.heap.size) W2 (.slice aq ns cq) (i64s sn)) := hid (HS.out.keep hk (fun _ _ _ h => h))
  have HX' : Hd (Sl (fun b => b < w.heap.size) W2 (.slice ad dn cd) (u8s x.d)) := hid (HX.out.keep hk (fun _ _ _ h => h))
  have BA' : Hd (Blk W2 w.heap.size #[(.int .i64 q), (.slice ab n cb), (.slice ap np cp), (.slice aq ns cq)] 44) := hid (blk_keep BA.out hk (fun h => h))
  have BB' : Hd (Blk W2 b_BB #[(.int .i64 x.i), (.int .i64 x.f), (.int .i64 x.t), (.int .i64 x.g), (.int .i64 x.o), (.int .i64 x.a), (.int .u32 (x.s : Int)), (.slice ad dn cd)] 59) := hid (blk_keep BB.out hk (fun h => h))
  have BR' : Hd (Blk W2 b_BR #[(.int .i64 0), (.slice none 0 0), (.slice none 0 0), (.slice none 0 0)] 44) := hid (blk_keep BR.out hk (fun h => h))
  clear HB HP HS HX BA BB BR
  have HB := HB'
  clear HB'
  have HP := HP'
  clear HP'
  have HS := HS'
  clear HS'
  have HX := HX'
  clear HX'
  have BA := BA'
  clear BA'
  have BB := BB'
  clear BB'
  have BR := BR'
  clear BR'
  have HK' : Hd (Keeps (fun _ => False) w W2) := hid (HK.out.trans hk)
  clear HK
  have HK := HK'
  clear HK'
  have z_W2 := hk.size
  clear hk
  have o_BR_0 : W2.cell? ⟨b_BR, 0, none⟩ = some ((.int .i64 0)) := blk_cell BR.out 0
  have o_BR_1 : W2.cell? ⟨b_BR, 1, none⟩ = some ((.slice none 0 0)) := blk_cell BR.out 1
  have o_BR_2 : W2.cell? ⟨b_BR, 2, none⟩ = some ((.slice none 0 0)) := blk_cell BR.out 2
  have o_BR_3 : W2.cell? ⟨b_BR, 3, none⟩ = some ((.slice none 0 0)) := blk_cell BR.out 3
  have f_BR_0 : W2.frozen? ⟨b_BR, 0, none⟩ = false := blk_free BR.out 0
  have f_BR_1 : W2.frozen? ⟨b_BR, 1, none⟩ = false := blk_free BR.out 1
  have f_BR_2 : W2.frozen? ⟨b_BR, 2, none⟩ = false := blk_free BR.out 2
  have f_BR_3 : W2.frozen? ⟨b_BR, 3, none⟩ = false := blk_free BR.out 3
  go_wp2
  clear o_BR_0 o_BR_1 o_BR_2 o_BR_3 f_BR_0 f_BR_1 f_BR_2 f_BR_3
  obtain ⟨HV2, B3⟩ := fin4 HK.out (show w.heap.size ≤ b_BR by omega) BR.out (.int .i64 0) (.slice none 0 0) (.slice none 0 0) (.slice none 0 0)
  have r0 := blk_cell B3 0
  have r1 := blk_cell B3 1
  have r2 := blk_cell B3 2
  have r3 := blk_cell B3 3
  refine bodyPost_ret (v := .tuple #[.agg #[.int .i64 0, .slice none 0 0, .slice none 0 0, .slice none 0 0], .int .i64 4]) (by simp [results, Tryd.results13, go_sem, r0, r1, r2, r3]) rfl ?_
  exact ⟨rfl, HV2⟩
def ldC : Op := Op.load 41 (.tmp 39)
theorem ldC_eq : Op.load 41 (.tmp 39) = ldC := rfl
attribute [local go_sem] ldC
set_option maxRecDepth 100000 in
set_option maxHeartbeats 4000000 in
theorem Create_ok (K : Nat → Prop) (q : Int) (bs : List Bu) (ps sn : List Int) (x : Bu) (ab ap aq ad : Option Addr) (cb cp cq cd : Nat) (w : World) (hb : Bus K w (.slice ab bs.length cb) bs) (hp : Sl K w (.slice ap ps.length cp) (i64s ps)) (hs : Sl K w (.slice aq sn.length cq) (i64s sn)) (hx : Sl K w (.slice ad x.d.length cd) (u8s x.d))
    (l1 : bs.length ≤ 63) (l2 : ps.length ≤ 1000) (l3 : sn.length ≤ 1000) (hd : ∀ x ∈ bs, x.d.length ≤ 256) (hdx : x.d.length ≤ 256) (hss : sn.Pairwise (· < ·)) (hi : x.i ∉ sn) (hu : usedL bs + ((x.d.length : Int) + 16) ≤ q) (hq : q ≤ 1000000) :
    Calls Tryd.prog 13 #[.agg #[.int .i64 q, .slice ab bs.length cb, .slice ap ps.length cp, .slice aq sn.length cq], .agg #[.int .i64 x.i, .int .i64 x.f, .int .i64 x.t, .int .i64 x.g, .int .i64 x.o, .int .i64 x.a, .int .u32 (x.s : Int), .slice ad x.d.length cd]] w fun e w' => ∃ ab cb ap cp aq cq, e = .returned (.tuple #[.agg #[.int .i64 q, .slice ab (bs.length + 1) cb, .slice ap ps.length cp, .slice aq (sn.length + 1) cq], .int .i64 0]) ∧ Bus (fun b => w.heap.size ≤ b) w' (.slice ab (bs.length + 1) cb) (bs ++ [x]) ∧
      Sl (fun b => w.heap.size ≤ b) w' (.slice ap ps.length cp) (i64s ps) ∧ Sl (fun b => w.heap.size ≤ b) w' (.slice aq (sn.length + 1) cq) (i64s (insI sn x.i)) ∧ Keeps (fun _ => False) w w' := by
  have hc : Hd (sn.contains x.i = false) := hid (by simpa using hi)
  have HI := hid hi
  obtain ⟨iB, zB, hBi, hB0, hB1, hB2, hB3⟩ := bu_parts
  have hub := usedL_b (l := bs) (fun y hy => by have := hd y hy; omega)
  have hub1 := hub.1
  clear hi hub
  obtain ⟨u, hus⟩ : ∃ u, usedL bs = u := ⟨_, rfl⟩
  have HUS := hid hus
  rw [hus] at hu hub1
  clear hus
  have HB := hid (hb.mono (K' := fun b => b < w.heap.size) (fun b h _ => h)); have HP := hid (hp.mono (K' := fun b => b < w.heap.size) (fun b h _ => h)); have HS := hid (hs.mono (K' := fun b => b < w.heap.size) (fun b h _ => h)); have HX := hid (hx.mono (K' := fun b => b < w.heap.size) (fun b h _ => h)); have HD := hid hd; have HSS := hid hss
  clear hb hp hs hd hx hss
  obtain ⟨n, hn⟩ : ∃ n, bs.length = n := ⟨_, rfl⟩
  obtain ⟨np, hnp⟩ : ∃ n, ps.length = n := ⟨_, rfl⟩
  obtain ⟨ns, hns⟩ : ∃ n, sn.length = n := ⟨_, rfl⟩
  obtain ⟨dn, hdn⟩ : ∃ n, x.d.length = n := ⟨_, rfl⟩
  have HN := hid hn; have HNP := hid hnp; have HNS := hid hns; have HDN := hid hdn
  rw [hn] at HB l1 ⊢
  rw [hnp] at HP l2 ⊢
  rw [hns] at HS l3 ⊢
  rw [hdn] at HX hdx hu ⊢
  clear hn hnp hns hdn
  go_enter Tryd.func13, Tryd.ntmps13
  go_upto_region 1 with fail
  generalize hW : World.alloc (World.alloc (World.alloc w _) _) _ = W1
  have KS : Hd (Keeps (fun _ => False) w W1) := hid (by rw [← hW]; exact (Keeps.alloc (Keeps.alloc (Keeps.alloc (Keeps.refl (fun _ => False) w) _) _) _))
  have HB' : Hd (Bus (fun b => b < w.heap.size) W1 (.slice ab n cb) bs) := hid (HB.out.keep KS.out (fun _ _ _ h => h))
  have HP' : Hd (Sl (fun b => b < w.heap.size) W1 (.slice ap np cp) (i64s ps)) := hid (HP.out.keep KS.out (fun _ _ _ h => h))
  have HS' : Hd (Sl (fun b => b < w.heap.size) W1 (.slice aq ns cq) (i64s sn)) := hid (HS.out.keep KS.out (fun _ _ _ h => h))
  have HX' : Hd (Sl (fun b => b < w.heap.size) W1 (.slice ad dn cd) (u8s x.d)) := hid (HX.out.keep KS.out (fun _ _ _ h => h))
  have BA : Hd (Blk W1 w.heap.size #[(.int .i64 q), (.slice ab n cb), (.slice ap np cp), (.slice aq ns cq)] 44) := hid (by rw [← hW]; exact (blk_alloc (blk_alloc (blk_new _ _ _) _) _))
  have BB : Hd (Blk W1 (w.heap.size + 1) #[(.int .i64 x.i), (.int .i64 x.f), (.int .i64 x.t), (.int .i64 x.g), (.int .i64 x.o), (.int .i64 x.a), (.int .u32 (x.s : Int)), (.slice ad dn cd)] 59) := hid (by rw [← hW]; exact (blk_alloc (blk_new' _ _ _ _ (by simp)) _))
  have BR : Hd (Blk W1 (w.heap.size + 1 + 1) #[(.int .i64 0), (.slice none 0 0), (.slice none 0 0), (.slice none 0 0)] 44) := hid (by rw [← hW]; exact (blk_new' _ _ _ _ (by simp)))
  clear HB HP HS HX
  have HB := HB'
  clear HB'
  have HP := HP'
  clear HP'
  have HS := HS'
  clear HS'
  have HX := HX'
  clear HX'
  have HK : Hd (Keeps (fun _ => False) w W1) := hid KS.out
  have z_W1 : w.heap.size + 3 ≤ W1.heap.size := by rw [← hW]; simp
  clear hW KS
  generalize hb_BR : w.heap.size + 1 + 1 = b_BR at *
  generalize hb_BB : w.heap.size + 1 = b_BB at *
  have q0 : ¬ ((256 : Int) < dn) := by omega
  have o_BB_0 : W1.cell? ⟨b_BB, 0, none⟩ = some ((.int .i64 x.i)) := blk_cell BB.out 0
  have o_BB_7 : W1.cell? ⟨b_BB, 7, none⟩ = some ((.slice ad dn cd)) := blk_cell BB.out 7
  have o_BA_1 : W1.cell? ⟨w.heap.size, 1, none⟩ = some ((.slice ab n cb)) := blk_cell BA.out 1
  have o_BA_3 : W1.cell? ⟨w.heap.size, 3, none⟩ = some ((.slice aq ns cq)) := blk_cell BA.out 3
  go_wp2_with fail
  refine (has_any _ _ sn x.i _ HS.out (by rw [HNS.out]; omega) (sorted_le HSS.out)).mono ?_
  rw [hc.out]
  rintro e wx ⟨rfl, hdr⟩
  have hk := drawn_keeps (fun _ => False) hdr
  clear hdr
  obtain ⟨W2, rfl⟩ : ∃ V, V = wx := ⟨_, rfl⟩
  clear o_BB_0 o_BB_7 o_BA_1 o_BA_3
  have HB' : Hd (Bus (fun b => b < w.heap.size) W2 (.slice ab n cb) bs) := hid (HB.out.keep hk (fun _ _ _ h => h))
  have HP' : Hd (Sl (fun b => b < w.heap.size) W2 (.slice ap np cp) (i64s ps)) := hid (HP.out.keep hk (fun _ _ _ h => h))
  have HS' : Hd (Sl (fun b => b < w.heap.size) W2 (.slice aq ns cq) (i64s sn)) := hid (HS.out.keep hk (fun _ _ _ h => h))
  have HX' : Hd (Sl (fun b => b < w.heap.size) W2 (.slice ad dn cd) (u8s x.d)) := hid (HX.out.keep hk (fun _ _ _ h => h))
  have BA' : Hd (Blk W2 w.heap.size #[(.int .i64 q), (.slice ab n cb), (.slice ap np cp), (.slice aq ns cq)] 44) := hid (blk_keep BA.out hk (fun h => h))
  have BB' : Hd (Blk W2 b_BB #[(.int .i64 x.i), (.int .i64 x.f), (.int .i64 x.t), (.int .i64 x.g), (.int .i64 x.o), (.int .i64 x.a), (.int .u32 (x.s : Int)), (.slice ad dn cd)] 59) := hid (blk_keep BB.out hk (fun h => h))
  have BR' : Hd (Blk W2 b_BR #[(.int .i64 0), (.slice none 0 0), (.slice none 0 0), (.slice none 0 0)] 44) := hid (blk_keep BR.out hk (fun h => h))
  clear HB HP HS HX BA BB BR
  have HB := HB'
  clear HB'
  have HP := HP'
  clear HP'
  have HS := HS'
  clear HS'
  have HX := HX'
  clear HX'
  have BA := BA'
  clear BA'
  have BB := BB'
  clear BB'
  have BR := BR'
  clear BR'
  have HK' : Hd (Keeps (fun _ => False) w W2) := hid (HK.out.trans hk)
  clear HK
  have HK := HK'
  clear HK'
  have z_W2 := hk.size
  clear hk
  have q1 : ¬ ((64 : Int) ≤ n) := by omega
  have hw1 : IntKind.i64.wrap (u + ((dn : Int) + 16)) = u + ((dn : Int) + 16) := IntWalk.i64_in _ (by omega)
  have q2 : ¬ (q < u + ((dn : Int) + 16)) := by omega
  have d2 : decide (q < u + ((dn : Int) + 16)) = false := by simp; omega
  have o_BA_0 : W2.cell? ⟨w.heap.size, 0, none⟩ = some ((.int .i64 q)) := blk_cell BA.out 0
  have o_BA_1 : W2.cell? ⟨w.heap.size, 1, none⟩ = some ((.slice ab n cb)) := blk_cell BA.out 1
  have o_BA_2 : W2.cell? ⟨w.heap.size, 2, none⟩ = some ((.slice ap np cp)) := blk_cell BA.out 2
  have o_BA_3 : W2.cell? ⟨w.heap.size, 3, none⟩ = some ((.slice aq ns cq)) := blk_cell BA.out 3
  go_upto_region 7 with fail
  clear o_BA_0 o_BA_1 o_BA_2 o_BA_3
  have HCU : Hd (∀ X, Keeps (fun _ => False) W2 X → Calls Tryd.prog 24 #[.agg #[.int .i64 q, .slice ab n cb, .slice ap np cp, .slice aq ns cq]] X fun e w' => e = .returned (.int .i64 u) ∧ Keeps (fun _ => False) X w') := hid (fun X hx => by have h := Used_any bs (fun b => b < w.heap.size) q ab cb (.slice ap np cp) (.slice aq ns cq) X (by rw [HN.out]; exact HB.out.keep hx (fun _ _ _ h => h)) (by rw [HN.out]; omega) (fun y hy => by have := HD.out y hy; omega); rw [HUS.out, HN.out] at h; exact h)
  go_cut [27] from 28 to 35 (fun u27 wx => u27 = .bool false ∧ Hd (Keeps (fun _ => False) W2 wx))
  case first =>
    have KC : Hd (Keeps (fun _ => False) W2 W2) := hid (Keeps.refl _ _)
    have HSS : Hd (∀ w', Keeps (fun _ => False) W2 w' → (w'.cell? ⟨w.heap.size, 0, none⟩ = some ((.int .i64 q)) ∧ w'.cell? ⟨w.heap.size, 1, none⟩ = some ((.slice ab n cb)) ∧ w'.cell? ⟨w.heap.size, 2, none⟩ = some ((.slice ap np cp)) ∧ w'.cell? ⟨w.heap.size, 3, none⟩ = some ((.slice aq ns cq)) ∧ w'.cell? ⟨b_BB, 0, none⟩ = some ((.int .i64 x.i)) ∧ w'.cell? ⟨b_BB, 1, none⟩ = some ((.int .i64 x.f)) ∧ w'.cell? ⟨b_BB, 2, none⟩ = some ((.int .i64 x.t)) ∧ w'.cell? ⟨b_BB, 3, none⟩ = some ((.int .i64 x.g)) ∧ w'.cell? ⟨b_BB, 4, none⟩ = some ((.int .i64 x.o)) ∧ w'.cell? ⟨b_BB, 5, none⟩ = some ((.int .i64 x.a)) ∧ w'.cell? ⟨b_BB, 6, none⟩ = some ((.int .u32 (x.s : Int))) ∧ w'.cell? ⟨b_BB, 7, none⟩ = some ((.slice ad dn cd)))) := hid (fun w' hk => ⟨blk_cell (blk_keep BA.out hk (fun h => h)) 0, blk_cell (blk_keep BA.out hk (fun h => h)) 1, blk_cell (blk_keep BA.out hk (fun h => h)) 2, blk_cell (blk_keep BA.out hk (fun h => h)) 3, blk_cell (blk_keep BB.out hk (fun h => h)) 0, blk_cell (blk_keep BB.out hk (fun h => h)) 1, blk_cell (blk_keep BB.out hk (fun h => h)) 2, blk_cell (blk_keep BB.out hk (fun h => h)) 3, blk_cell (blk_keep BB.out hk (fun h => h)) 4, blk_cell (blk_keep BB.out hk (fun h => h)) 5, blk_cell (blk_keep BB.out hk (fun h => h)) 6, blk_cell (blk_keep BB.out hk (fun h => h)) 7⟩)
    go_region_held (fun w' => w'.cell? ⟨w.heap.size, 0, none⟩ = some ((.int .i64 q)) ∧ w'.cell? ⟨w.heap.size, 1, none⟩ = some ((.slice ab n cb)) ∧ w'.cell? ⟨w.heap.size, 2, none⟩ = some ((.slice ap np cp)) ∧ w'.cell? ⟨w.heap.size, 3, none⟩ = some ((.slice aq ns cq)) ∧ w'.cell? ⟨b_BB, 0, none⟩ = some ((.int .i64 x.i)) ∧ w'.cell? ⟨b_BB, 1, none⟩ = some ((.int .i64 x.f)) ∧ w'.cell? ⟨b_BB, 2, none⟩ = some ((.int .i64 x.t)) ∧ w'.cell? ⟨b_BB, 3, none⟩ = some ((.int .i64 x.g)) ∧ w'.cell? ⟨b_BB, 4, none⟩ = some ((.int .i64 x.o)) ∧ w'.cell? ⟨b_BB, 5, none⟩ = some ((.int .i64 x.a)) ∧ w'.cell? ⟨b_BB, 6, none⟩ = some ((.int .u32 (x.s : Int))) ∧ w'.cell? ⟨b_BB, 7, none⟩ = some ((.slice ad dn cd))) (exact HSS.out _ (by repeat (first | (with_reducible refine Keeps.setCell (S := fun _ => False) ?_ (.inl (by first | (with_reducible rfl) | (simp <;> fail) | fail)) _) | (with_reducible apply Keeps.drewN) | (with_reducible apply Keeps.drew) | (with_reducible exact KC.out) | (with_reducible exact Keeps.refl _ _) | (with_reducible exact KC.out.mono (fun _ _ h => h.elim)))))
      (first
      | (go_at_call 24; (refine (HCU.out _ (by repeat (first | (with_reducible exact KC.out) | (with_reducible exact Keeps.refl _ _) | (with_reducible apply Keeps.drewN) | (with_reducible apply Keeps.drew) | (with_reducible apply Keeps.alloc)))).mono ?_); rintro e wy0 ⟨rfl, hk⟩; have KC2 : Hd (Keeps (fun _ => False) W2 wy0) := hid (Keeps.trans (S := fun _ => False) (by repeat (first | (with_reducible exact KC.out) | (with_reducible exact Keeps.refl _ _) | (with_reducible apply Keeps.drewN) | (with_reducible apply Keeps.drew) | (with_reducible apply Keeps.alloc))) hk); have zc := KC.out.size; have zk := hk.size; (try simp at zk); replace KC := KC2; clear KC2; replace hk := hid hk)
      | (go_at_call 25; (refine (Size_any _ _ _ _ _ _ _ _ dn _ _ (by omega)).mono ?_); rintro e wy1 ⟨rfl, hk⟩; have KC2 : Hd (Keeps (fun _ => False) W2 wy1) := hid (Keeps.trans (S := fun _ => False) (by repeat (first | (with_reducible exact KC.out) | (with_reducible exact Keeps.refl _ _) | (with_reducible apply Keeps.drewN) | (with_reducible apply Keeps.drew) | (with_reducible apply Keeps.alloc))) hk); have zc := KC.out.size; have zk := hk.size; (try simp at zk); replace KC := KC2; clear KC2; replace hk := hid hk))
    all_goals
      go_wp2_with fail
      go_meet
      exact ⟨rfl, hid (by repeat (first | (with_reducible refine Keeps.setCell (S := fun _ => False) ?_ (.inl (by first | (with_reducible rfl) | (simp <;> fail) | fail)) _) | (with_reducible apply Keeps.drewN) | (with_reducible apply Keeps.drew) | (with_reducible exact KC.out) | (with_reducible exact Keeps.refl _ _) | (with_reducible exact KC.out.mono (fun _ _ h => h.elim))))⟩
  case rest =>
    obtain ⟨rfl, hk⟩ := hcut
    replace hk := hk.out
    generalize wc = W3 at *
    have HB' : Hd (Bus (fun b => b < w.heap.size) W3 (.slice ab n cb) bs) := hid (HB.out.keep hk (fun _ _ _ h => h))
    have HP' : Hd (Sl (fun b => b < w.heap.size) W3 (.slice ap np cp) (i64s ps)) := hid (HP.out.keep hk (fun _ _ _ h => h))
    have HS' : Hd (Sl (fun b => b < w.heap.size) W3 (.slice aq ns cq) (i64s sn)) := hid (HS.out.keep hk (fun _ _ _ h => h))
    have HX' : Hd (Sl (fun b => b < w.heap.size) W3 (.slice ad dn cd) (u8s x.d)) := hid (HX.out.keep hk (fun _ _ _ h => h))
    have BA' : Hd (Blk W3 w.heap.size #[(.int .i64 q), (.slice ab n cb), (.slice ap np cp), (.slice aq ns cq)] 44) := hid (blk_keep BA.out hk (fun h => by exact h))
    have BB' : Hd (Blk W3 b_BB #[(.int .i64 x.i), (.int .i64 x.f), (.int .i64 x.t), (.int .i64 x.g), (.int .i64 x.o), (.int .i64 x.a), (.int .u32 (x.s : Int)), (.slice ad dn cd)] 59) := hid (blk_keep BB.out hk (fun h => by exact h))
    have BR' : Hd (Blk W3 b_BR #[(.int .i64 0), (.slice none 0 0), (.slice none 0 0), (.slice none 0 0)] 44) := hid (blk_keep BR.out hk (fun h => by exact h))
    clear HB HP HS HX BA BB BR
    have HB := HB'
    clear HB'
    have HP := HP'
    clear HP'
    have HS := HS'
    clear HS'
    have HX := HX'
    clear HX'
    have BA := BA'
    clear BA'
    have BB := BB'
    clear BB'
    have BR := BR'
    clear BR'
    have HK' : Hd (Keeps (fun _ => False) w W3) := hid (HK.out.trans hk)
    clear HK
    have HK := HK'
    clear HK'
    have z_W3 := hk.size
    clear hk
    clear HCU hw1 q2 d2
    have o_BA_0 : W3.cell? ⟨w.heap.size, 0, none⟩ = some ((.int .i64 q)) := blk_cell BA.out 0
    have o_BA_1 : W3.cell? ⟨w.heap.size, 1, none⟩ = some ((.slice ab n cb)) := blk_cell BA.out 1
    have o_BA_2 : W3.cell? ⟨w.heap.size, 2, none⟩ = some ((.slice ap np cp)) := blk_cell BA.out 2
    have o_BA_3 : W3.cell? ⟨w.heap.size, 3, none⟩ = some ((.slice aq ns cq)) := blk_cell BA.out 3
    go_wp2_with fail
    have hcc := copied_any (fun b => b < w.heap.size) q bs ps sn ab ap aq cb cp cq W3 (by rw [HN.out]; exact HB.out) (by rw [HNP.out]; exact HP.out) (by rw [HNS.out]; exact HS.out) (by rw [HN.out]; omega) (by rw [HNP.out]; omega) (by rw [HNS.out]; omega) (fun y hy => by have := HD.out y hy; omega)
    unfold CopR at hcc
    rw [HN.out, HNP.out, HNS.out] at hcc
    refine (hcc).mono ?_
    clear hcc
    rintro e W4 ⟨ab2, cb2, ap2, cp2, aq2, cq2, B1, rfl, hB1s, hB1b, hbp, hop, hoq, hdis, hk⟩
    have HBP := hid hbp; have HOP : Hd (Own (fun b => (Value.slice ap2 np cp2).ownBlock = some b ∧ W3.heap.size ≤ b ∧ b < B1) _ 3 1 (.slice ap2 np cp2) np (i64s ps)) := hid ⟨hop.1, fun k hk => ⟨hk, hop.2 k hk⟩⟩; have HOQ := hid hoq; have HDIS := hid hdis
    clear hbp hop hoq hdis
    clear o_BA_0 o_BA_1 o_BA_2 o_BA_3
    have HB' : Hd (Bus (fun b => b < w.heap.size) W4 (.slice ab n cb) bs) := hid (HB.out.keep hk (fun _ _ _ h => h))
    have HP' : Hd (Sl (fun b => b < w.heap.size) W4 (.slice ap np cp) (i64s ps)) := hid (HP.out.keep hk (fun _ _ _ h => h))
    have HS' : Hd (Sl (fun b => b < w.heap.size) W4 (.slice aq ns cq) (i64s sn)) := hid (HS.out.keep hk (fun _ _ _ h => h))
    have HX' : Hd (Sl (fun b => b < w.heap.size) W4 (.slice ad dn cd) (u8s x.d)) := hid (HX.out.keep hk (fun _ _ _ h => h))
    have BA' : Hd (Blk W4 w.heap.size #[(.int .i64 q), (.slice ab n cb), (.slice ap np cp), (.slice aq ns cq)] 44) := hid (blk_keep BA.out hk (fun h => h))
    have BB' : Hd (Blk W4 b_BB #[(.int .i64 x.i), (.int .i64 x.f), (.int .i64 x.t), (.int .i64 x.g), (.int .i64 x.o), (.int .i64 x.a), (.int .u32 (x.s : Int)), (.slice ad dn cd)] 59) := hid (blk_keep BB.out hk (fun h => h))
    have BR' : Hd (Blk W4 b_BR #[(.int .i64 0), (.slice none 0 0), (.slice none 0 0), (.slice none 0 0)] 44) := hid (blk_keep BR.out hk (fun h => h))
    clear HB HP HS HX BA BB BR
    have HB := HB'
    clear HB'
    have HP := HP'
    clear HP'
    have HS := HS'
    clear HS'
    have HX := HX'
    clear HX'
    have BA := BA'
    clear BA'
    have BB := BB'
    clear BB'
    have BR := BR'
    clear BR'
    have HK' : Hd (Keeps (fun _ => False) w W4) := hid (HK.out.trans hk)
    clear HK
    have HK := HK'
    clear HK'
    have z_W4 := hk.size
    clear hk
    have HBQ : Hd (BuQ (fun b => B1 ≤ b ∧ b ≠ W4.heap.size) W4 (.slice ab2 n cb2) bs) := hid (HBP.out.buq (fun b hb h => ⟨h, by omega⟩) (fun b hb h => ⟨h, by omega⟩))
    clear HBP
    have o_BA_0 : W4.cell? ⟨w.heap.size, 0, none⟩ = some ((.int .i64 q)) := blk_cell BA.out 0
    have o_BA_1 : W4.cell? ⟨w.heap.size, 1, none⟩ = some ((.slice ab n cb)) := blk_cell BA.out 1
    have o_BA_2 : W4.cell? ⟨w.heap.size, 2, none⟩ = some ((.slice ap np cp)) := blk_cell BA.out 2
    have o_BA_3 : W4.cell? ⟨w.heap.size, 3, none⟩ = some ((.slice aq ns cq)) := blk_cell BA.out 3
    have f_BA_0 : W4.frozen? ⟨w.heap.size, 0, none⟩ = false := blk_free BA.out 0
    have f_BA_1 : W4.frozen? ⟨w.heap.size, 1, none⟩ = false := blk_free BA.out 1
    have f_BA_2 : W4.frozen? ⟨w.heap.size, 2, none⟩ = false := blk_free BA.out 2
    have f_BA_3 : W4.frozen? ⟨w.heap.size, 3, none⟩ = false := blk_free BA.out 3
    go_upto_region 10 with fail
    clear o_BA_0 o_BA_1 o_BA_2 o_BA_3 f_BA_0 f_BA_1 f_BA_2 f_BA_3
    generalize hW : World.alloc W4 _ = W5
    have KS : Hd (Keeps (fun _ => False) W4 W5) := hid (by rw [← hW]; exact (Keeps.alloc (Keeps.refl (fun _ => False) W4) _))
    have HB' : Hd (Bus (fun b => b < w.heap.size) W5 (.slice ab n cb) bs) := hid (HB.out.keep KS.out (fun _ _ _ h => h))
    have HP' : Hd (Sl (fun b => b < w.heap.size) W5 (.slice ap np cp) (i64s ps)) := hid (HP.out.keep KS.out (fun _ _ _ h => h))
    have HS' : Hd (Sl (fun b => b < w.heap.size) W5 (.slice aq ns cq) (i64s sn)) := hid (HS.out.keep KS.out (fun _ _ _ h => h))
    have HX' : Hd (Sl (fun b => b < w.heap.size) W5 (.slice ad dn cd) (u8s x.d)) := hid (HX.out.keep KS.out (fun _ _ _ h => h))
    have BA' : Hd (Blk W5 w.heap.size #[(.int .i64 q), (.slice ab n cb), (.slice ap np cp), (.slice aq ns cq)] 44) := hid (by rw [← hW]; exact (blk_alloc BA.out _))
    have BB' : Hd (Blk W5 b_BB #[(.int .i64 x.i), (.int .i64 x.f), (.int .i64 x.t), (.int .i64 x.g), (.int .i64 x.o), (.int .i64 x.a), (.int .u32 (x.s : Int)), (.slice ad dn cd)] 59) := hid (by rw [← hW]; exact (blk_alloc BB.out _))
    have BR' : Hd (Blk W5 b_BR #[(.int .i64 0), (.slice none 0 0), (.slice none 0 0), (.slice none 0 0)] 44) := hid (by rw [← hW]; exact (blk_alloc BR.out _))
    have HOP' : Hd (Own (fun b => (Value.slice ap2 np cp2).ownBlock = some b ∧ W3.heap.size ≤ b ∧ b < B1) W5 3 1 (.slice ap2 np cp2) np (i64s ps)) := hid (HOP.out.keep KS.out (fun _ _ _ h => h))
    have HOQ' : Hd (Own (fun b => W3.heap.size ≤ b ∧ b < B1) W5 3 1 (.slice aq2 ns cq2) ns (i64s sn)) := hid (HOQ.out.keep KS.out (fun _ _ _ h => h))
    have HBQ' : Hd (BuQ (fun b => B1 ≤ b ∧ b ≠ W4.heap.size) W5 (.slice ab2 n cb2) bs) := hid (HBQ.out.keep KS.out (fun _ _ _ h => h))
    have BO : Hd (Blk W5 W4.heap.size #[(.int .i64 q), (.slice ab2 n cb2), (.slice ap2 np cp2), (.slice aq2 ns cq2)] 44) := hid (by rw [← hW]; exact (blk_new _ _ _))
    clear HB HP HS HX BA BB BR HOP HOQ HBQ
    have HB := HB'
    clear HB'
    have HP := HP'
    clear HP'
    have HS := HS'
    clear HS'
    have HX := HX'
    clear HX'
    have BA := BA'
    clear BA'
    have BB := BB'
    clear BB'
    have BR := BR'
    clear BR'
    have HOP := HOP'
    clear HOP'
    have HOQ := HOQ'
    clear HOQ'
    have HBQ := HBQ'
    clear HBQ'
    have HK' : Hd (Keeps (fun _ => False) w W5) := hid (HK.out.trans KS.out)
    clear HK
    have HK := HK'
    clear HK'
    have z_W5 : W4.heap.size + 1 ≤ W5.heap.size := by rw [← hW]; simp
    clear hW KS
    generalize hbO : W4.heap.size = b_O at *
    clear hbO
    have HKO : Hd (∀ b, (Value.slice ab2 n cb2).ownBlock = some b → B1 ≤ b ∧ b ≠ b_O) := hid (fun b hb => by obtain ⟨xs, hO, _⟩ := HBQ.out; exact (hO.2 b hb).2)
    have lt_bO : b_O < W5.heap.size := blk_lt BO.out
    have hdx2 : x.d.length ≤ 1000000 := by rw [HDN.out]; omega
    go_upto_region 10 with fail
    go_cut [] from 39 to 45 (fun wx => ∃ (a7 : Option Addr) (c7 : Nat), Hd (Blk wx b_O #[(.int .i64 q), (.slice a7 (n + 1) c7), (.slice ap2 np cp2), (.slice aq2 ns cq2)] 44) ∧ Hd (BuQ (fun b => B1 ≤ b ∧ b ≠ b_O) wx (.slice a7 (n + 1) c7) (bs ++ [x])) ∧ Hd (Keeps (fun b => b = b_O ∨ (Value.slice ab2 n cb2).ownBlock = some b) W5 wx))
    case first =>
      obtain ⟨xs, hO, hX⟩ := HBQ.out
      rw [HN.out] at hO
      have HLT : Hd (∀ b, (Value.slice ab2 n cb2).ownBlock = some b → b < W5.heap.size) := hid (fun b hb => (hO.1.lt b hb).2)
      have HKO : Hd (∀ b, (Value.slice ab2 n cb2).ownBlock = some b → (fun b => B1 ≤ b ∧ b ≠ b_O) b) := hid (fun b hb => (hO.2 b hb).2)
      have HOO : Hd (Own (fun b => (Value.slice ab2 n cb2).ownBlock = some b) W5 59 8 (.slice ab2 n cb2) n xs) := hid (hO.mono (fun b _ h => h.1)); have HXB := hid hX
      clear hO hX
      have HGO : Hd (∀ b, (Value.slice ab2 n cb2).ownBlock = some b → b ≠ b_O) := hid (fun b hb => by have h := HKO.out b hb; simp only [] at h; omega)
      have HGX : Hd (∀ b, (Value.slice ab2 n cb2).ownBlock = some b → b ≠ b_BB) := hid (fun b hb => by have h := HKO.out b hb; simp only [] at h; omega)
      have o1 : W5.cell? ⟨b_O, 1, none⟩ = some (.slice ab2 n cb2) := blk_cell BO.out 1
      have ga1 : ∀ o, (World.alloc W5 o).cell? ⟨b_O, 1, none⟩ = some (.slice ab2 n cb2) := fun o => keep_cell (keeps_alloc (fun _ => False) _ o) (fun h => h) o1
      have HSS : Hd (∀ w', Keeps (fun b => (Value.slice ab2 n cb2).ownBlock = some b) W5 w' → (w'.cell? ⟨b_BB, 0, none⟩ = some ((.int .i64 x.i)) ∧ w'.cell? ⟨b_BB, 1, none⟩ = some ((.int .i64 x.f)) ∧ w'.cell? ⟨b_BB, 2, none⟩ = some ((.int .i64 x.t)) ∧ w'.cell? ⟨b_BB, 3, none⟩ = some ((.int .i64 x.g)) ∧ w'.cell? ⟨b_BB, 4, none⟩ = some ((.int .i64 x.o)) ∧ w'.cell? ⟨b_BB, 5, none⟩ = some ((.int .i64 x.a)) ∧ w'.cell? ⟨b_BB, 6, none⟩ = some ((.int .u32 (x.s : Int))) ∧ w'.cell? ⟨b_BB, 7, none⟩ = some ((.slice ad dn cd)))) := hid (fun w' hk => ⟨blk_cell (blk_keep BB.out hk (fun h => HGX.out _ h rfl)) 0, blk_cell (blk_keep BB.out hk (fun h => HGX.out _ h rfl)) 1, blk_cell (blk_keep BB.out hk (fun h => HGX.out _ h rfl)) 2, blk_cell (blk_keep BB.out hk (fun h => HGX.out _ h rfl)) 3, blk_cell (blk_keep BB.out hk (fun h => HGX.out _ h rfl)) 4, blk_cell (blk_keep BB.out hk (fun h => HGX.out _ h rfl)) 5, blk_cell (blk_keep BB.out hk (fun h => HGX.out _ h rfl)) 6, blk_cell (blk_keep BB.out hk (fun h => HGX.out _ h rfl)) 7⟩)
      have HCL : Hd (∀ X, Keeps (fun _ => False) W5 X → Calls Tryd.prog 27 #[.agg #[.int .i64 x.i, .int .i64 x.f, .int .i64 x.t, .int .i64 x.g, .int .i64 x.o, .int .i64 x.a, .int .u32 (x.s : Int), .slice ad dn cd]] X fun e w' => ∃ a c, e = .returned (.agg #[.int .i64 x.i, .int .i64 x.f, .int .i64 x.t, .int .i64 x.g, .int .i64 x.o, .int .i64 x.a, .int .u32 (x.s : Int), .slice a dn c]) ∧ Sl (fun b => X.heap.size ≤ b) w' (.slice a dn c) (u8s x.d) ∧ Keeps (fun _ => False) X w') := hid (fun X hx => by have h := clone_any x (fun b => b < w.heap.size) ad cd X (by rw [HDN.out]; exact HX.out.keep hx (fun _ _ _ h => h)) hdx2; rw [HDN.out] at h; exact h)
      have KC : Hd (Keeps (fun _ => False) W5 W5) := hid (Keeps.refl _ _)
      rw [ldC_eq]
      go_region_held_law (fun w' => w'.cell? ⟨b_BB, 0, none⟩ = some ((.int .i64 x.i)) ∧ w'.cell? ⟨b_BB, 1, none⟩ = some ((.int .i64 x.f)) ∧ w'.cell? ⟨b_BB, 2, none⟩ = some ((.int .i64 x.t)) ∧ w'.cell? ⟨b_BB, 3, none⟩ = some ((.int .i64 x.g)) ∧ w'.cell? ⟨b_BB, 4, none⟩ = some ((.int .i64 x.o)) ∧ w'.cell? ⟨b_BB, 5, none⟩ = some ((.int .i64 x.a)) ∧ w'.cell? ⟨b_BB, 6, none⟩ = some ((.int .u32 (x.s : Int))) ∧ w'.cell? ⟨b_BB, 7, none⟩ = some ((.slice ad dn cd))) ((first | (refine HSS.out _ ?_; (repeat (first | (with_reducible exact K7.out) | (with_reducible exact KC.out.mono (fun _ _ h => h.elim)) | (with_reducible exact Keeps.refl _ _) | (with_reducible apply Keeps.drewN) | (with_reducible apply Keeps.drew) | (with_reducible apply Keeps.alloc))); done) | (refine set1_8 (b := b_O) (by omega) (HSS.out _ ?_); (repeat (first | (with_reducible exact K7.out) | (with_reducible exact KC.out.mono (fun _ _ h => h.elim)) | (with_reducible exact Keeps.refl _ _) | (with_reducible apply Keeps.drewN) | (with_reducible apply Keeps.drew) | (with_reducible apply Keeps.alloc))); done)))
        (first
        | (refine step_append_row rfl (.tmp 40) (.tmp 43) 41 rfl 59 iB zB 8 80 Tryd.underlying41 hBi hB0 hB1 hB2 hB3 (by decide) (fun b => (Value.slice ab2 n cb2).ownBlock = some b) (.slice ab2 n cb2) n xs (by simp [Act.eval]) ((HOO.out.keep KC.out (fun _ _ _ h => h)).alloc _) ⟨wy0.heap.size, 0, none⟩ 1 1 [.int .i64 x.i, .int .i64 x.f, .int .i64 x.t, .int .i64 x.g, .int .i64 x.o, .int .i64 x.a, .int .u32 (x.s : Int), .slice a1 dn c1] (by simp [Act.eval]) rfl (lit_src wy0 _ _) (by intro u hu; simp at hu; rcases hu with rfl | rfl | rfl | rfl | rfl | rfl | rfl | rfl <;> rfl) (by simp [maxLen]; omega) (by omega) ?_; intro a7 c7 w7 hown7 hgrow; have K7 : Hd (Keeps (fun b => (Value.slice ab2 n cb2).ownBlock = some b) W5 w7) := hid (((KC.out.mono (T := (fun b => (Value.slice ab2 n cb2).ownBlock = some b)) (fun _ _ h => h.elim)).alloc _).trans hgrow); have g10 : w7.cell? ⟨b_O, 1, none⟩ = some (.slice ab2 n cb2) := keep_cell K7.out (fun h => HGO.out _ h rfl) (blk_cell BO.out 1); have z10 : w7.frozen? ⟨b_O, 1, none⟩ = false := keep_free K7.out (fun h => HGO.out _ h rfl) (blk_cell BO.out 1) (blk_free BO.out 1); replace hown7 := hid hown7; replace hgrow := hid hgrow)
        | (go_at_call 27; (refine (HCL.out _ (by repeat (first | (with_reducible exact KC.out) | (with_reducible exact Keeps.refl _ _) | (with_reducible apply Keeps.drewN) | (with_reducible apply Keeps.drew) | (with_reducible apply Keeps.alloc)))).mono ?_); rintro e wy0 ⟨a1, c1, rfl, hs1, hk⟩; have KC2 : Hd (Keeps (fun _ => False) W5 wy0) := hid (Keeps.trans (S := fun _ => False) (by repeat (first | (with_reducible exact KC.out) | (with_reducible exact Keeps.refl _ _) | (with_reducible apply Keeps.drewN) | (with_reducible apply Keeps.drew) | (with_reducible apply Keeps.alloc))) hk); have HS1 := hid (hs1.mono (K' := fun b => W5.heap.size ≤ b) (fun b _ h => Nat.le_trans (by first | exact Nat.le_refl _ | (simp <;> fail) | (simp; omega) | omega | fail) h)); clear hs1; replace KC := KC2; clear KC2; have c10 : wy0.cell? ⟨b_O, 1, none⟩ = some (.slice ab2 n cb2) := keep_cell KC.out (fun h => h) (blk_cell BO.out 1); have ga10 : ∀ o, (World.alloc wy0 o).cell? ⟨b_O, 1, none⟩ = some (.slice ab2 n cb2) := fun o => keep_cell (keeps_alloc (fun _ => False) _ o) (fun h => h) c10; replace hk := hid hk))
      all_goals
        go_wp2_with fail
        go_meet
        have zk := KC.out.size
        have HBN : Hd (BuQ (fun b => B1 ≤ b ∧ b ≠ b_O) w7 (.slice a7 (n + 1) c7) (bs ++ [x])) := hid (by
          refine buq_append (v := (Value.slice ab2 n cb2)) (ns := [.int .i64 x.i, .int .i64 x.f, .int .i64 x.t, .int .i64 x.g, .int .i64 x.o, .int .i64 x.a, .int .u32 (x.s : Int), .slice a1 dn c1]) HKO.out (HXB.out.keep KC.out (fun _ _ _ h => h)) (keeps_alloc _ wy0 (.cells ([.int .i64 x.i, .int .i64 x.f, .int .i64 x.t, .int .i64 x.g, .int .i64 x.o, .int .i64 x.a, .int .u32 (x.s : Int), .slice a1 dn c1]).toArray 59)) (by have h := BuC.one (x := x) (a := a1) (c := c1) (K := fun b => (fun b => B1 ≤ b ∧ b ≠ b_O) b ∧ (Value.slice ab2 n cb2).ownBlock ≠ some b) (w := World.alloc wy0 (.cells ([.int .i64 x.i, .int .i64 x.f, .int .i64 x.t, .int .i64 x.g, .int .i64 x.o, .int .i64 x.a, .int .u32 (x.s : Int), .slice a1 dn c1]).toArray 59)) (by rw [HDN.out]; exact (HS1.out.keep (keeps_alloc (fun _ => False) _ _) (fun _ _ _ h => h)).mono (fun b _ h => ⟨by first | omega | (simp only []; omega), fun e => by have := HLT.out b e; omega⟩)); rw [HDN.out] at h; exact h) (fun b h => by simp at h; first | omega | (simp only []; omega)) ?_ (by first | exact hgrow.out | exact hgrow.out.mono (fun _ _ h => h))
          rw [HN.out]
          exact hown7.out)
        have HSET : Hd (Keeps (fun b => b = b_O) w7 (w7.setCell ⟨b_O, 1, none⟩ (.slice a7 (n + 1) c7))) := hid (keeps_set _ _ _ _ rfl)
        exact ⟨a7, c7, hid (blk_set (blk_keep BO.out K7.out (fun h => HGO.out _ h rfl)) 1 _), hid (HBN.out.keep HSET.out (fun b h1 h2 h3 => by first | omega | (simp only [] at h2; omega))), hid ((K7.out.mono (fun _ _ h => .inr h)).trans (HSET.out.mono (fun _ _ h => .inl h)))⟩
    case rest =>
      obtain ⟨a7, c7, NBO, NBQ, hk⟩ := hcut
      replace hk := hk.out
      generalize wc = W6 at *
      clear BO
      clear HBQ
      have HB' : Hd (Bus (fun b => b < w.heap.size) W6 (.slice ab n cb) bs) := hid (HB.out.keep hk (fun b _ h1 h2 => by rcases h2 with h2 | h2; omega; have := HKO.out b h2; omega))
      have HP' : Hd (Sl (fun b => b < w.heap.size) W6 (.slice ap np cp) (i64s ps)) := hid (HP.out.keep hk (fun b _ h1 h2 => by rcases h2 with h2 | h2; omega; have := HKO.out b h2; omega))
      have HS' : Hd (Sl (fun b => b < w.heap.size) W6 (.slice aq ns cq) (i64s sn)) := hid (HS.out.keep hk (fun b _ h1 h2 => by rcases h2 with h2 | h2; omega; have := HKO.out b h2; omega))
      have HX' : Hd (Sl (fun b => b < w.heap.size) W6 (.slice ad dn cd) (u8s x.d)) := hid (HX.out.keep hk (fun b _ h1 h2 => by rcases h2 with h2 | h2; omega; have := HKO.out b h2; omega))
      have BA' : Hd (Blk W6 w.heap.size #[(.int .i64 q), (.slice ab n cb), (.slice ap np cp), (.slice aq ns cq)] 44) := hid (blk_keep BA.out hk (fun h => by rcases h with h | h; omega; have := HKO.out _ h; omega))
      have BB' : Hd (Blk W6 b_BB #[(.int .i64 x.i), (.int .i64 x.f), (.int .i64 x.t), (.int .i64 x.g), (.int .i64 x.o), (.int .i64 x.a), (.int .u32 (x.s : Int)), (.slice ad dn cd)] 59) := hid (blk_keep BB.out hk (fun h => by rcases h with h | h; omega; have := HKO.out _ h; omega))
      have BR' : Hd (Blk W6 b_BR #[(.int .i64 0), (.slice none 0 0), (.slice none 0 0), (.slice none 0 0)] 44) := hid (blk_keep BR.out hk (fun h => by rcases h with h | h; omega; have := HKO.out _ h; omega))
      have HOP' : Hd (Own (fun b => (Value.slice ap2 np cp2).ownBlock = some b ∧ W3.heap.size ≤ b ∧ b < B1) W6 3 1 (.slice ap2 np cp2) np (i64s ps)) := hid (HOP.out.keep hk (fun b _ h1 h2 => by rcases h2 with h2 | h2; omega; have := HKO.out b h2; omega))
      have HOQ' : Hd (Own (fun b => W3.heap.size ≤ b ∧ b < B1) W6 3 1 (.slice aq2 ns cq2) ns (i64s sn)) := hid (HOQ.out.keep hk (fun b _ h1 h2 => by rcases h2 with h2 | h2; omega; have := HKO.out b h2; omega))
      clear HB HP HS HX BA BB BR HOP HOQ
      have HB := HB'
      clear HB'
      have HP := HP'
      clear HP'
      have HS := HS'
      clear HS'
      have HX := HX'
      clear HX'
      have BA := BA'
      clear BA'
      have BB := BB'
      clear BB'
      have BR := BR'
      clear BR'
      have HOP := HOP'
      clear HOP'
      have HOQ := HOQ'
      clear HOQ'
      have HK' : Hd (Keeps (fun _ => False) w W6) := hid (HK.out.trans' hk (fun i hi h => by rcases h with h | h; omega; have := HKO.out i h; omega))
      clear HK
      have HK := HK'
      clear HK'
      have z_W6 := hk.size
      clear hk
      have BO := NBO; have HBQ := NBQ
      clear NBO NBQ HKO
      have o_BO_3 : W6.cell? ⟨b_O, 3, none⟩ = some ((.slice aq2 ns cq2)) := blk_cell BO.out 3
      have o_BB_0 : W6.cell? ⟨b_BB, 0, none⟩ = some ((.int .i64 x.i)) := blk_cell BB.out 0
      have HQO : Hd (∀ b, (Value.slice aq2 ns cq2).ownBlock = some b → W3.heap.size ≤ b ∧ b < B1) := hid (fun b hb => HOQ.out.2 b hb)
      go_wp2_with fail
      have hcc := insert_yes (fun b => (Value.slice aq2 ns cq2).ownBlock = some b) (.slice aq2 ns cq2) sn x.i W6 (by rw [HNS.out]; exact ⟨HOQ.out.1, fun _ h => h⟩) (by rw [HNS.out]; omega) HSS.out HI.out
      rw [HNS.out] at hcc
      refine hcc.mono ?_
      clear hcc
      rintro e W7 ⟨a8, c8, rfl, hsl, hk⟩
      have HSL := hid (hsl.mono (K' := fun b => W3.heap.size ≤ b ∧ b ≠ b_O) (fun b _ h => by rcases h with h | h; (have := HQO.out b h; omega); omega))
      clear hsl HOQ
      clear o_BO_3 o_BB_0
      have HB' : Hd (Bus (fun b => b < w.heap.size) W7 (.slice ab n cb) bs) := hid (HB.out.keep hk (fun b _ h1 h2 => by have := HQO.out b h2; omega))
      have HP' : Hd (Sl (fun b => b < w.heap.size) W7 (.slice ap np cp) (i64s ps)) := hid (HP.out.keep hk (fun b _ h1 h2 => by have := HQO.out b h2; omega))
      have HS' : Hd (Sl (fun b => b < w.heap.size) W7 (.slice aq ns cq) (i64s sn)) := hid (HS.out.keep hk (fun b _ h1 h2 => by have := HQO.out b h2; omega))
      have HX' : Hd (Sl (fun b => b < w.heap.size) W7 (.slice ad dn cd) (u8s x.d)) := hid (HX.out.keep hk (fun b _ h1 h2 => by have := HQO.out b h2; omega))
      have BA' : Hd (Blk W7 w.heap.size #[(.int .i64 q), (.slice ab n cb), (.slice ap np cp), (.slice aq ns cq)] 44) := hid (blk_keep BA.out hk (fun h => by have := HQO.out _ h; omega))
      have BB' : Hd (Blk W7 b_BB #[(.int .i64 x.i), (.int .i64 x.f), (.int .i64 x.t), (.int .i64 x.g), (.int .i64 x.o), (.int .i64 x.a), (.int .u32 (x.s : Int)), (.slice ad dn cd)] 59) := hid (blk_keep BB.out hk (fun h => by have := HQO.out _ h; omega))
      have BR' : Hd (Blk W7 b_BR #[(.int .i64 0), (.slice none 0 0), (.slice none 0 0), (.slice none 0 0)] 44) := hid (blk_keep BR.out hk (fun h => by have := HQO.out _ h; omega))
      have HOP' : Hd (Own (fun b => (Value.slice ap2 np cp2).ownBlock = some b ∧ W3.heap.size ≤ b ∧ b < B1) W7 3 1 (.slice ap2 np cp2) np (i64s ps)) := hid (HOP.out.keep hk (fun b hb h1 h2 => HDIS.out b h1.1 h2))
      have BO' : Hd (Blk W7 b_O #[(.int .i64 q), (.slice a7 (n + 1) c7), (.slice ap2 np cp2), (.slice aq2 ns cq2)] 44) := hid (blk_keep BO.out hk (fun h => by have := HQO.out _ h; omega))
      have HBQ' : Hd (BuQ (fun b => B1 ≤ b ∧ b ≠ b_O) W7 (.slice a7 (n + 1) c7) (bs ++ [x])) := hid (HBQ.out.keep hk (fun b _ h1 h2 => by have := HQO.out b h2; omega))
      clear HB HP HS HX BA BB BR HOP BO HBQ
      have HB := HB'
      clear HB'
      have HP := HP'
      clear HP'
      have HS := HS'
      clear HS'
      have HX := HX'
      clear HX'
      have BA := BA'
      clear BA'
      have BB := BB'
      clear BB'
      have BR := BR'
      clear BR'
      have HOP := HOP'
      clear HOP'
      have BO := BO'
      clear BO'
      have HBQ := HBQ'
      clear HBQ'
      have HK' : Hd (Keeps (fun _ => False) w W7) := hid (HK.out.trans' hk (fun i hi h => by have := HQO.out i h; omega))
      clear HK
      have HK := HK'
      clear HK'
      have z_W7 := hk.size
      clear hk
      have o_BO_3 : W7.cell? ⟨b_O, 3, none⟩ = some ((.slice aq2 ns cq2)) := blk_cell BO.out 3
      have f_BO_3 : W7.frozen? ⟨b_O, 3, none⟩ = false := blk_free BO.out 3
      go_upto_region 12 with fail
      clear o_BO_3 f_BO_3
      generalize hW : World.setCell W7 _ _ = W8
      have KS : Hd (Keeps (fun b => b = b_O) W7 W8) := hid (by rw [← hW]; exact (Keeps.setCell (S := fun b => b = b_O) (p := ⟨b_O, 3, none⟩) (Keeps.refl (fun b => b = b_O) W7) (.inl rfl) _))
      have HB' : Hd (Bus (fun b => b < w.heap.size) W8 (.slice ab n cb) bs) := hid (HB.out.keep KS.out (fun b _ h1 h2 => by omega))
      have HP' : Hd (Sl (fun b => b < w.heap.size) W8 (.slice ap np cp) (i64s ps)) := hid (HP.out.keep KS.out (fun b _ h1 h2 => by omega))
      have HS' : Hd (Sl (fun b => b < w.heap.size) W8 (.slice aq ns cq) (i64s sn)) := hid (HS.out.keep KS.out (fun b _ h1 h2 => by omega))
      have HX' : Hd (Sl (fun b => b < w.heap.size) W8 (.slice ad dn cd) (u8s x.d)) := hid (HX.out.keep KS.out (fun b _ h1 h2 => by omega))
      have BA' : Hd (Blk W8 w.heap.size #[(.int .i64 q), (.slice ab n cb), (.slice ap np cp), (.slice aq ns cq)] 44) := hid (by rw [← hW]; exact (blk_other BA.out (by omega) _ _))
      have BB' : Hd (Blk W8 b_BB #[(.int .i64 x.i), (.int .i64 x.f), (.int .i64 x.t), (.int .i64 x.g), (.int .i64 x.o), (.int .i64 x.a), (.int .u32 (x.s : Int)), (.slice ad dn cd)] 59) := hid (by rw [← hW]; exact (blk_other BB.out (by omega) _ _))
      have BR' : Hd (Blk W8 b_BR #[(.int .i64 0), (.slice none 0 0), (.slice none 0 0), (.slice none 0 0)] 44) := hid (by rw [← hW]; exact (blk_other BR.out (by omega) _ _))
      have HOP' : Hd (Own (fun b => (Value.slice ap2 np cp2).ownBlock = some b ∧ W3.heap.size ≤ b ∧ b < B1) W8 3 1 (.slice ap2 np cp2) np (i64s ps)) := hid (HOP.out.keep KS.out (fun b _ h1 h2 => by omega))
      have BO' : Hd (Blk W8 b_O #[(.int .i64 q), (.slice a7 (n + 1) c7), (.slice ap2 np cp2), (.slice a8 (ns + 1) c8)] 44) := hid (by rw [← hW]; exact (blk_set BO.out 3 _))
      have HBQ' : Hd (BuQ (fun b => B1 ≤ b ∧ b ≠ b_O) W8 (.slice a7 (n + 1) c7) (bs ++ [x])) := hid (HBQ.out.keep KS.out (fun b _ h1 h2 => by omega))
      have HSL' : Hd (Sl (fun b => W3.heap.size ≤ b ∧ b ≠ b_O) W8 (.slice a8 (ns + 1) c8) (i64s (insI sn x.i))) := hid (HSL.out.keep KS.out (fun b _ h1 h2 => by omega))
      clear HB HP HS HX BA BB BR HOP BO HBQ HSL
      have HB := HB'
      clear HB'
      have HP := HP'
      clear HP'
      have HS := HS'
      clear HS'
      have HX := HX'
      clear HX'
      have BA := BA'
      clear BA'
      have BB := BB'
      clear BB'
      have BR := BR'
      clear BR'
      have HOP := HOP'
      clear HOP'
      have BO := BO'
      clear BO'
      have HBQ := HBQ'
      clear HBQ'
      have HSL := HSL'
      clear HSL'
      have HK' : Hd (Keeps (fun _ => False) w W8) := hid (HK.out.trans' KS.out (fun i hi h => by omega))
      clear HK
      have HK := HK'
      clear HK'
      have z_W8 : W7.heap.size + 0 ≤ W8.heap.size := by rw [← hW]; simp
      clear hW KS
      have o_BO_0 : W8.cell? ⟨b_O, 0, none⟩ = some ((.int .i64 q)) := blk_cell BO.out 0
      have o_BO_1 : W8.cell? ⟨b_O, 1, none⟩ = some ((.slice a7 (n + 1) c7)) := blk_cell BO.out 1
      have o_BO_2 : W8.cell? ⟨b_O, 2, none⟩ = some ((.slice ap2 np cp2)) := blk_cell BO.out 2
      have o_BO_3 : W8.cell? ⟨b_O, 3, none⟩ = some ((.slice a8 (ns + 1) c8)) := blk_cell BO.out 3
      have o_BR_0 : W8.cell? ⟨b_BR, 0, none⟩ = some ((.int .i64 0)) := blk_cell BR.out 0
      have o_BR_1 : W8.cell? ⟨b_BR, 1, none⟩ = some ((.slice none 0 0)) := blk_cell BR.out 1
      have o_BR_2 : W8.cell? ⟨b_BR, 2, none⟩ = some ((.slice none 0 0)) := blk_cell BR.out 2
      have o_BR_3 : W8.cell? ⟨b_BR, 3, none⟩ = some ((.slice none 0 0)) := blk_cell BR.out 3
      have f_BR_0 : W8.frozen? ⟨b_BR, 0, none⟩ = false := blk_free BR.out 0
      have f_BR_1 : W8.frozen? ⟨b_BR, 1, none⟩ = false := blk_free BR.out 1
      have f_BR_2 : W8.frozen? ⟨b_BR, 2, none⟩ = false := blk_free BR.out 2
      have f_BR_3 : W8.frozen? ⟨b_BR, 3, none⟩ = false := blk_free BR.out 3
      go_wp2
      clear o_BO_0 o_BO_1 o_BO_2 o_BO_3 o_BR_0 o_BR_1 o_BR_2 o_BR_3 f_BR_0 f_BR_1 f_BR_2 f_BR_3
      obtain ⟨HV2, B3⟩ := fin4 HK.out (show w.heap.size ≤ b_BR by omega) BR.out (.int .i64 q) (.slice a7 (n + 1) c7) (.slice ap2 np cp2) (.slice a8 (ns + 1) c8)
      have r0 := blk_cell B3 0
      have r1 := blk_cell B3 1
      have r2 := blk_cell B3 2
      have r3 := blk_cell B3 3
      refine bodyPost_ret (v := .tuple #[.agg #[.int .i64 q, .slice a7 (n + 1) c7, .slice ap2 np cp2, .slice a8 (ns + 1) c8], .int .i64 0]) (by simp [results, Tryd.results13, go_sem, r0, r1, r2, r3]) rfl ?_
      have kf := keep4 W8 b_BR (.int .i64 q) (.slice a7 (n + 1) c7) (.slice ap2 np cp2) (.slice a8 (ns + 1) c8)
      refine ⟨a7, c7, ap2, cp2, a8, c8, rfl, (HBQ.out.bus.keep kf (fun b h1 h2 h3 => by omega)).mono (fun b _ h => by omega), ?_, (HSL.out.keep kf (fun b h1 h2 h3 => by omega)).mono (fun b _ h => by omega), HV2⟩
      exact ((row_sl HOP.out.row (by rw [i64s_length, HNP.out])).keep kf (fun b h1 h2 h3 => by omega)).mono (fun b _ h => by omega)
end Go.Proofs.YtgfekgceeigdiaaDoor
