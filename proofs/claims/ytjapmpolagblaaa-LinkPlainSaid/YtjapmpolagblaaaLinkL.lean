/- The walk of the link laws' 'lives'. -/
import Derived.Test.YtjapmpolagblaaaLinkCells
namespace Go.Proofs.Ytjapmpolagblaaa
open Go.RowKit
attribute [local go_sem ↓] Go.wp_at_zero Go.wp_at_succ
/-- a link that was sent, in its block -/
def SentN (W : World) (R : List Flt × Int × Bool) (u v : Value) (wx : World) : Prop := ∃ b a c, u = .pointer (some ⟨b, 0, none⟩) ∧ v = .bool R.2.2 ∧ W.heap.size ≤ b ∧ Hd (Blk wx b #[.slice a R.1.length c, .int .i64 R.2.1] 28) ∧ Hd (Fls (fun i => W.heap.size ≤ i) wx (.slice a R.1.length c) R.1) ∧ Hd (Keeps (fun _ => False) W wx)
theorem sentN_new {W w2 : World} {R : List Flt × Int × Bool} {a : Option Addr} {c B : Nat} (hk : Keeps (fun _ => False) W w2) (hB : W.heap.size ≤ B) (hf : FlO B w2 (.slice a R.1.length c) R.1) :
    SentN W R (.pointer (some ⟨w2.heap.size, 0, none⟩)) (.bool R.2.2) (w2.alloc (.cells #[.slice a R.1.length c, .int .i64 R.2.1] 28)) :=
  ⟨_, a, c, rfl, rfl, hk.size, hid (blk_new _ _ _), hid ((hf.mono hB).fls.keep (keeps_alloc (fun _ => False) _ _) (fun _ _ _ h => h)), hid (hk.alloc _)⟩
theorem sentN_old {W w2 : World} {R : List Flt × Int × Bool} {a : Option Addr} {b c B : Nat} {c0 c1 : Value} (hk : Keeps (fun _ => False) W w2) (hb : W.heap.size ≤ b) (hbB : b < B) (hf : FlO B w2 (.slice a R.1.length c) R.1) (hn : Blk w2 b #[c0, c1] 28) :
    SentN W R (.pointer (some ⟨b, 0, none⟩)) (.bool R.2.2) ((w2.setCell ⟨b, 0, none⟩ (.slice a R.1.length c)).setCell ⟨b, 1, none⟩ (.int .i64 R.2.1)) :=
  have ks : Keeps (fun i => i = b) w2 ((w2.setCell ⟨b, 0, none⟩ (.slice a R.1.length c)).setCell ⟨b, 1, none⟩ (.int .i64 R.2.1)) := Keeps.setCell (S := fun i => i = b) (Keeps.setCell (S := fun i => i = b) (Keeps.refl _ _) (.inl rfl) _) (.inl rfl) _
  ⟨b, a, c, rfl, rfl, hb, hid (blk_set (blk_set hn 0 _) 1 _), hid ((hf.fls.keep ks (fun i _ h1 h2 => by omega)).mono (fun i _ h => by omega)), hid ((hk.setCell (.inr hb) _).setCell (.inr hb) _)⟩
theorem fts_one {A : World} {g : Nat} {f : Ft} (hf : f.fg = []) (h : Blk A g #[.int .i64 f.m, .int .i64 f.k, .int .i64 f.dl, .int .i64 f.a, .slice none 0 0] 64) : Fts (fun b => b < A.heap.size) A (.slice (some ⟨g, 0, none⟩) 1 1) [f] := by
  refine ⟨[.int .i64 f.m, .int .i64 f.k, .int .i64 f.dl, .int .i64 f.a, .slice none 0 0], ⟨rfl, .inr ⟨_, 1, rfl, Nat.le_refl _, by decide, fun _ => ⟨g, 0, rfl, blk_lt h, blk_lt h, fun j hj => ?_⟩⟩⟩, fun i x hx => ?_⟩
  · rw [Nat.zero_add, blk_cell h j]
    match j, hj with
    | 0, _ => rfl
    | 1, _ => rfl
    | 2, _ => rfl
    | 3, _ => rfl
    | 4, _ => rfl
    | j + 5, hj => simp at hj; omega
  · match i, hx with
    | 0, hx =>
      simp at hx; subst hx
      refine ⟨rfl, rfl, rfl, rfl, ?_⟩
      show Sl _ A (.slice none 0 0) (u8s f.fl.d)
      rw [show f.fl.d = [] from hf]
      exact Sl.nil _ _
    | i + 1, hx => simp at hx
theorem sl_cells {w : World} {g : Nat} {l : List Nat} (hm : l.length ≤ 1000) (h : Blk w g (u8s l).toArray 5) : Sl (fun _ => True) w (.slice (some ⟨g, 0, none⟩) l.length l.length) (u8s l) := by
  refine ⟨by simp, .inr ⟨⟨g, 0, none⟩, l.length, by simp, by simp, by unfold maxLen; omega, fun _ => ⟨g, 0, rfl, trivial, blk_lt h, fun j hj => ?_⟩⟩⟩
  rw [Nat.zero_add, blk_cell h j]
  simp only [u8s_length, Nat.mul_one] at hj
  simp [List.getD, hj, u8s]
set_option maxRecDepth 100000 in set_option maxHeartbeats 1000000 in
theorem lives_any (w : World) : Calls Try.prog 11 #[] w fun e w' => e = .returned (.bool true) ∧ Keeps (fun _ => False) w w' := by
  go_enter Try.func11, Try.ntmps11
  go_upto_region 2 with fail
  generalize hW : World.alloc (World.alloc w _) _ = W
  obtain ⟨pm, hpm⟩ : ∃ pm, w.heap.size + 1 = pm := ⟨_, rfl⟩
  have BM : Hd (Blk W pm #[.int .i64 12, .int .i64 0, .slice (some ⟨w.heap.size, 0, none⟩) 3 3] 37) := hid (by rw [← hW]; exact blk_new' _ _ _ _ (by simp [hpm]))
  have SM : Hd (Sl (fun b => b < W.heap.size) W (.slice (some ⟨w.heap.size, 0, none⟩) 3 3) (u8s [1, 2, 3])) := hid ((sl_cells (l := [1, 2, 3]) (by decide) (by rw [← hW]; exact blk_alloc (blk_new _ _ _) _)).mono (fun b h _ => h))
  have KW : Hd (Keeps (fun _ => False) w W) := hid (by rw [← hW]; repeat (first | (with_reducible assumption) | (with_reducible exact Keeps.refl _ _) | (with_reducible apply Keeps.drewN) | (with_reducible apply Keeps.drew) | (with_reducible apply Keeps.alloc) | refine Keeps.setCell ?_ (by first | (simp; done) | (simp; omega)) _))
  clear hW
  rw [hpm]
  go_upto_region 2 with fail
  have L5 : Hd (Keeps (fun _ => False) W W) := hid (Keeps.refl _ _)
  have HSS : Hd (∀ w', Keeps (fun _ => False) W w' → (w'.cell? ⟨pm, 0, none⟩ = some (.int .i64 12) ∧ w'.cell? ⟨pm, 1, none⟩ = some (.int .i64 0) ∧ w'.cell? ⟨pm, 2, none⟩ = some (.slice (some ⟨w.heap.size, 0, none⟩) 3 3))) := hid (fun w' hk => by
    have := blk_keep BM.out hk (fun h => h)
    exact ⟨blk_cell this 0, blk_cell this 1, blk_cell this 2⟩)
  have HR : Hd (sendL [] 0 [conW] [] 2 12 0 [1, 2, 3] = ([⟨3, 0, 12, 0, [1, 2, 3]⟩], 1, true)) := hid (by kernel_rfl)
  go_cut [2, 3] from 16 to 22 (fun u v wx => SentN W ([⟨3, 0, 12, 0, [1, 2, 3]⟩], 1, true) u v wx)
  case first =>
    go_region_held3 (fun w' => w'.cell? ⟨pm, 0, none⟩ = some (.int .i64 12) ∧ w'.cell? ⟨pm, 1, none⟩ = some (.int .i64 0) ∧ w'.cell? ⟨pm, 2, none⟩ = some (.slice (some ⟨w.heap.size, 0, none⟩) 3 3)) (exact HSS.out _ (by repeat (first | (with_reducible exact K2.out) | (with_reducible exact KC.out) | (with_reducible exact Keeps.refl _ _) | (with_reducible apply Keeps.drewN) | (with_reducible apply Keeps.drew) | (with_reducible apply Keeps.alloc) | (refine Keeps.setCell ?_ (.inr (by first | omega | exact Nat.le_refl _ | (simp; done) | (simp; omega))) _))))
      (first
      | (go_at_call 14; refine (contact_any _).mono ?_; rintro e w1 ⟨a1, c1, rfl, hw1, hk1⟩; have KA1 := hid hk1; have KC : Hd (Keeps (fun _ => False) W w1) := hid (Keeps.trans (S := fun _ => False) (by repeat (first | (with_reducible exact Keeps.refl _ _) | (with_reducible apply Keeps.drewN) | (with_reducible apply Keeps.drew) | (with_reducible apply Keeps.alloc))) hk1); have HW1 := hid hw1; have zk := hk1.size; (try simp at zk); clear hw1 hk1)
      | (go_at_call 10; refine (Send_any (.slice none 0 0) _ (.slice none 0 0) [] [conW] [] 0 2 12 0 (some ⟨w.heap.size, 0, none⟩) 3 [1, 2, 3] _ ⟨[], ⟨rfl, .inl ⟨rfl, rfl⟩⟩, fun i x hx => by simp at hx⟩ ((HW1.out.keep (S := fun _ => False) (by repeat (first | (with_reducible exact Keeps.refl _ _) | (with_reducible apply Keeps.drewN) | (with_reducible apply Keeps.drew) | (with_reducible apply Keeps.alloc))) (fun _ _ _ h => h)).mono (fun b h1 _ => h1)) ⟨[], ⟨rfl, .inl ⟨rfl, rfl⟩⟩, fun i x hx => by simp at hx⟩ ((SM.out.keep (S := fun _ => False) (by (repeat (first | (with_reducible exact KC.out) | (with_reducible exact Keeps.refl _ _) | (with_reducible apply Keeps.drewN) | (with_reducible apply Keeps.drew) | (with_reducible apply Keeps.alloc))); done) (fun _ _ _ h => h)).mono (fun b h1 _ => h1)) (by decide) (by decide) (fun x hx => by simp at hx) (by decide) (fun x hx => by simp at hx) (by decide) (by decide) (by decide) (by decide) (by decide)).mono ?_; rw [HR.out]; rintro e w2 ⟨a2, n2, c2, rfl, hn2, hf2, hk2⟩; have K2 : Hd (Keeps (fun _ => False) W w2) := hid (Keeps.trans (S := fun _ => False) (by (repeat (first | (with_reducible exact KC.out) | (with_reducible exact Keeps.refl _ _) | (with_reducible apply Keeps.drewN) | (with_reducible apply Keeps.drew) | (with_reducible apply Keeps.alloc))); done) hk2); have zc := KC.out.size; have z2 := hk2.size; (try simp at z2); (first | (have HNB : Hd (Blk w2 W.heap.size #[.slice none 0 0, .int .i64 0] 28) := ?hb; (case hb => refine hid (blk_keep ?_ hk2 (fun h => h)); (repeat (first | (with_reducible refine blk_new' _ _ _ _ ?_) | (with_reducible apply blk_drewN) | (with_reducible apply blk_drew) | (with_reducible apply blk_alloc) | (with_reducible refine blk_keep ?_ KA1.out (fun h => h)))); (first | (with_reducible rfl) | (simp; done))); have F0 := blk_cell HNB.out 0; have F1 := blk_cell HNB.out 1; have G0 := blk_free HNB.out 0; have G1 := blk_free HNB.out 1) | (have HNB : Hd (Blk w2 (W.heap.size + 1) #[.slice none 0 0, .int .i64 0] 28) := ?hb; (case hb => refine hid (blk_keep ?_ hk2 (fun h => h)); (repeat (first | (with_reducible refine blk_new' _ _ _ _ ?_) | (with_reducible apply blk_drewN) | (with_reducible apply blk_drew) | (with_reducible apply blk_alloc) | (with_reducible refine blk_keep ?_ KA1.out (fun h => h)))); (first | (with_reducible rfl) | (simp; done))); have F0 := blk_cell HNB.out 0; have F1 := blk_cell HNB.out 1; have G0 := blk_free HNB.out 0; have G1 := blk_free HNB.out 1) | (have HNB : Hd (Blk w2 w1.heap.size #[.slice none 0 0, .int .i64 0] 28) := ?hb; (case hb => refine hid (blk_keep ?_ hk2 (fun h => h)); (repeat (first | (with_reducible refine blk_new' _ _ _ _ ?_) | (with_reducible apply blk_drewN) | (with_reducible apply blk_drew) | (with_reducible apply blk_alloc) | (with_reducible refine blk_keep ?_ KA1.out (fun h => h)))); (first | (with_reducible rfl) | (simp; done))); have F0 := blk_cell HNB.out 0; have F1 := blk_cell HNB.out 1; have G0 := blk_free HNB.out 0; have G1 := blk_free HNB.out 1) | (have HNB : Hd (Blk w2 (w1.heap.size + 1) #[.slice none 0 0, .int .i64 0] 28) := ?hb; (case hb => refine hid (blk_keep ?_ hk2 (fun h => h)); (repeat (first | (with_reducible refine blk_new' _ _ _ _ ?_) | (with_reducible apply blk_drewN) | (with_reducible apply blk_drew) | (with_reducible apply blk_alloc) | (with_reducible refine blk_keep ?_ KA1.out (fun h => h)))); (first | (with_reducible rfl) | (simp; done))); have F0 := blk_cell HNB.out 0; have F1 := blk_cell HNB.out 1; have G0 := blk_free HNB.out 0; have G1 := blk_free HNB.out 1) | skip); have HF2 := hid hf2; subst hn2; clear hf2 hk2))
    all_goals
      go_wp2_with fail
      go_meet
      first
        | exact sentN_new K2.out (by first | omega | exact Nat.le_refl _ | (simp; done) | (simp; omega)) HF2.out
        | exact sentN_old K2.out (by omega) (by first | omega | exact Nat.le_refl _ | (simp; done) | (simp; omega)) HF2.out HNB.out
  case rest =>
    obtain ⟨b1, a1, c1, rfl, rfl, zb1, B1, F1, K1⟩ := hcut
    generalize wc = V1 at *
    have KA := hid (KW.out.trans K1.out)
    replace BM := hid (blk_keep BM.out K1.out (fun h => h)); replace SM := hid ((SM.out.keep K1.out (fun _ _ _ h => h)).mono (fun b h _ => h))
    have o0 : V1.cell? ⟨b1, 0, none⟩ = some (.slice a1 1 c1) := blk_cell B1.out 0
    have o1 : V1.cell? ⟨b1, 1, none⟩ = some (.int .i64 1) := blk_cell B1.out 1
    go_wp2_with fail
    refine (Step_any (.slice a1 1 c1) [⟨3, 0, 12, 0, [1, 2, 3]⟩] 1 2 V1 (F1.out.mono (fun b h _ => h)) (by decide) (by intro x hx; simp at hx; subst hx; decide)).mono ?_
    rintro e V2 ⟨a2, n2, c2, ao2, no2, co2, rfl, hn2, hno2, hf2, -, hk2⟩
    obtain rfl : n2 = 1 := hn2
    obtain rfl : no2 = 0 := hno2
    have F2 : Hd (Fls (fun b => V1.heap.size ≤ b) V2 (.slice a2 1 c2) [⟨3, 0, 12, 0, [1, 2, 3]⟩]) := hid hf2
    have K2 := hid hk2
    have z2 := hk2.size
    clear o0 o1 hf2 hk2 F1 B1
    go_upto_region 4 with fail
    generalize hV3 : World.alloc V2 _ = V3
    have B3 : Hd (Blk V3 V2.heap.size #[.slice a2 1 c2, .int .i64 1] 28) := hid (by rw [← hV3]; exact blk_new _ _ _)
    have K3 : Hd (Keeps (fun _ => False) V1 V3) := hid (by rw [← hV3]; exact K2.out.alloc _)
    have F3x : Hd (Fls (fun _ => True) V3 (.slice a2 1 c2) [⟨3, 0, 12, 0, [1, 2, 3]⟩]) := hid (by rw [← hV3]; exact (F2.out.mono (fun _ _ _ => trivial)).keep (keeps_alloc (fun _ => False) _ _) (fun _ _ _ h => h))
    clear hV3 F2 K2
    replace KA := hid (KA.out.trans K3.out)
    replace BM := hid (blk_keep BM.out K3.out (fun h => h)); replace SM := hid ((SM.out.keep K3.out (fun _ _ _ h => h)).mono (fun b h _ => h))
    have o0 : V3.cell? ⟨V2.heap.size, 0, none⟩ = some (.slice a2 1 c2) := blk_cell B3.out 0
    have o1 : V3.cell? ⟨V2.heap.size, 1, none⟩ = some (.int .i64 1) := blk_cell B3.out 1
    go_wp2_with fail
    refine (Step_any (.slice a2 1 c2) [⟨3, 0, 12, 0, [1, 2, 3]⟩] 1 3 V3 (F3x.out.mono (fun b h _ => h)) (by decide) (by intro x hx; simp at hx; subst hx; decide)).mono ?_
    rintro e V4 ⟨a4, n4, c4, ao4, no4, co4, rfl, hn4, hno4, -, ha4, hk4⟩
    obtain rfl : n4 = 0 := hn4
    obtain rfl : no4 = 1 := hno4
    have A4 : Hd (Ars (fun b => V3.heap.size ≤ b) V4 (.slice ao4 1 co4) [⟨3, 0, 12, 0, [1, 2, 3]⟩]) := hid ha4
    have K4 := hid hk4
    clear o0 o1 ha4 hk4 B3 F3x
    go_upto_region 5 with fail
    generalize hV5 : World.alloc V4 _ = V5
    have K5 : Hd (Keeps (fun _ => False) V3 V5) := hid (by rw [← hV5]; exact K4.out.alloc _)
    have A5 : Hd (Ars (fun b => pm < b) V5 (.slice ao4 1 co4) [⟨3, 0, 12, 0, [1, 2, 3]⟩]) := hid (by
      have z1 := K1.out.size
      have z3 := K3.out.size
      have zp := blk_lt BM.out
      rw [← hV5]; exact (A4.out.keep (keeps_alloc (fun _ => False) _ _) (fun _ _ _ h => h)).mono (fun b _ h => by omega))
    clear hV5 A4 K4
    replace KA := hid (KA.out.trans K5.out)
    replace BM := hid (blk_keep BM.out K5.out (fun h => h)); replace SM := hid ((SM.out.keep K5.out (fun _ _ _ h => h)).mono (fun b h _ => h))
    clear K1 K3 K5 zb1 z2
    clear L5 HSS HR
    go_upto_region 5 with fail
    have L5 : Hd (Keeps (fun _ => False) V5 V5) := hid (Keeps.refl _ _)
    have HSS : Hd (∀ w', Keeps (fun _ => False) V5 w' → (w'.cell? ⟨pm, 0, none⟩ = some (.int .i64 12) ∧ w'.cell? ⟨pm, 1, none⟩ = some (.int .i64 0) ∧ w'.cell? ⟨pm, 2, none⟩ = some (.slice (some ⟨w.heap.size, 0, none⟩) 3 3))) := hid (fun w' hk => by
      have := blk_keep BM.out hk (fun h => h)
      exact ⟨blk_cell this 0, blk_cell this 1, blk_cell this 2⟩)
    have HR : Hd (sendL [] 0 [conW] [] 5 12 0 [1, 2, 3] = ([], 0, false)) := hid (by kernel_rfl)
    go_cut [8, 9] from 33 to 39 (fun u v wx => SentN V5 ([], 0, false) u v wx)
    case first =>
      go_region_held3 (fun w' => w'.cell? ⟨pm, 0, none⟩ = some (.int .i64 12) ∧ w'.cell? ⟨pm, 1, none⟩ = some (.int .i64 0) ∧ w'.cell? ⟨pm, 2, none⟩ = some (.slice (some ⟨w.heap.size, 0, none⟩) 3 3)) (exact HSS.out _ (by repeat (first | (with_reducible exact K2.out) | (with_reducible exact KC.out) | (with_reducible exact Keeps.refl _ _) | (with_reducible apply Keeps.drewN) | (with_reducible apply Keeps.drew) | (with_reducible apply Keeps.alloc) | (refine Keeps.setCell ?_ (.inr (by first | omega | exact Nat.le_refl _ | (simp; done) | (simp; omega))) _))))
        (first
        | (go_at_call 14; refine (contact_any _).mono ?_; rintro e w1 ⟨a1, c1, rfl, hw1, hk1⟩; have KA1 := hid hk1; have KC : Hd (Keeps (fun _ => False) V5 w1) := hid (Keeps.trans (S := fun _ => False) (by repeat (first | (with_reducible exact Keeps.refl _ _) | (with_reducible apply Keeps.drewN) | (with_reducible apply Keeps.drew) | (with_reducible apply Keeps.alloc))) hk1); have HW1 := hid hw1; have zk := hk1.size; (try simp at zk); clear hw1 hk1)
        | (go_at_call 10; refine (Send_any (.slice none 0 0) _ (.slice none 0 0) [] [conW] [] 0 5 12 0 (some ⟨w.heap.size, 0, none⟩) 3 [1, 2, 3] _ ⟨[], ⟨rfl, .inl ⟨rfl, rfl⟩⟩, fun i x hx => by simp at hx⟩ ((HW1.out.keep (S := fun _ => False) (by repeat (first | (with_reducible exact Keeps.refl _ _) | (with_reducible apply Keeps.drewN) | (with_reducible apply Keeps.drew) | (with_reducible apply Keeps.alloc))) (fun _ _ _ h => h)).mono (fun b h1 _ => h1)) ⟨[], ⟨rfl, .inl ⟨rfl, rfl⟩⟩, fun i x hx => by simp at hx⟩ ((SM.out.keep (S := fun _ => False) (by (repeat (first | (with_reducible exact KC.out) | (with_reducible exact Keeps.refl _ _) | (with_reducible apply Keeps.drewN) | (with_reducible apply Keeps.drew) | (with_reducible apply Keeps.alloc))); done) (fun _ _ _ h => h)).mono (fun b h1 _ => h1)) (by decide) (by decide) (fun x hx => by simp at hx) (by decide) (fun x hx => by simp at hx) (by decide) (by decide) (by decide) (by decide) (by decide)).mono ?_; rw [HR.out]; rintro e w2 ⟨a2, n2, c2, rfl, hn2, hf2, hk2⟩; have K2 : Hd (Keeps (fun _ => False) V5 w2) := hid (Keeps.trans (S := fun _ => False) (by (repeat (first | (with_reducible exact KC.out) | (with_reducible exact Keeps.refl _ _) | (with_reducible apply Keeps.drewN) | (with_reducible apply Keeps.drew) | (with_reducible apply Keeps.alloc))); done) hk2); have zc := KC.out.size; have z2 := hk2.size; (try simp at z2); (first | (have HNB : Hd (Blk w2 V5.heap.size #[.slice none 0 0, .int .i64 0] 28) := ?hb; (case hb => refine hid (blk_keep ?_ hk2 (fun h => h)); (repeat (first | (with_reducible refine blk_new' _ _ _ _ ?_) | (with_reducible apply blk_drewN) | (with_reducible apply blk_drew) | (with_reducible apply blk_alloc) | (with_reducible refine blk_keep ?_ KA1.out (fun h => h)))); (first | (with_reducible rfl) | (simp; done))); have F0 := blk_cell HNB.out 0; have F1 := blk_cell HNB.out 1; have G0 := blk_free HNB.out 0; have G1 := blk_free HNB.out 1) | (have HNB : Hd (Blk w2 (V5.heap.size + 1) #[.slice none 0 0, .int .i64 0] 28) := ?hb; (case hb => refine hid (blk_keep ?_ hk2 (fun h => h)); (repeat (first | (with_reducible refine blk_new' _ _ _ _ ?_) | (with_reducible apply blk_drewN) | (with_reducible apply blk_drew) | (with_reducible apply blk_alloc) | (with_reducible refine blk_keep ?_ KA1.out (fun h => h)))); (first | (with_reducible rfl) | (simp; done))); have F0 := blk_cell HNB.out 0; have F1 := blk_cell HNB.out 1; have G0 := blk_free HNB.out 0; have G1 := blk_free HNB.out 1) | (have HNB : Hd (Blk w2 w1.heap.size #[.slice none 0 0, .int .i64 0] 28) := ?hb; (case hb => refine hid (blk_keep ?_ hk2 (fun h => h)); (repeat (first | (with_reducible refine blk_new' _ _ _ _ ?_) | (with_reducible apply blk_drewN) | (with_reducible apply blk_drew) | (with_reducible apply blk_alloc) | (with_reducible refine blk_keep ?_ KA1.out (fun h => h)))); (first | (with_reducible rfl) | (simp; done))); have F0 := blk_cell HNB.out 0; have F1 := blk_cell HNB.out 1; have G0 := blk_free HNB.out 0; have G1 := blk_free HNB.out 1) | (have HNB : Hd (Blk w2 (w1.heap.size + 1) #[.slice none 0 0, .int .i64 0] 28) := ?hb; (case hb => refine hid (blk_keep ?_ hk2 (fun h => h)); (repeat (first | (with_reducible refine blk_new' _ _ _ _ ?_) | (with_reducible apply blk_drewN) | (with_reducible apply blk_drew) | (with_reducible apply blk_alloc) | (with_reducible refine blk_keep ?_ KA1.out (fun h => h)))); (first | (with_reducible rfl) | (simp; done))); have F0 := blk_cell HNB.out 0; have F1 := blk_cell HNB.out 1; have G0 := blk_free HNB.out 0; have G1 := blk_free HNB.out 1) | skip); have HF2 := hid hf2; subst hn2; clear hf2 hk2))
      all_goals
        go_wp2_with fail
        go_meet
        first
          | exact sentN_new K2.out (by first | omega | exact Nat.le_refl _ | (simp; done) | (simp; omega)) HF2.out
          | exact sentN_old K2.out (by omega) (by first | omega | exact Nat.le_refl _ | (simp; done) | (simp; omega)) HF2.out HNB.out
    case rest =>
      obtain ⟨b6, a6, c6, rfl, rfl, zb6, -, -, K6⟩ := hcut
      generalize wc = V6 at *
      replace KA := hid (KA.out.trans K6.out)
      replace BM := hid (blk_keep BM.out K6.out (fun h => h)); replace SM := hid ((SM.out.keep K6.out (fun _ _ _ h => h)).mono (fun b h _ => h))
      replace A5 := hid (A5.out.keep K6.out (fun _ _ _ h => h))
      clear L5 HSS HR K6 zb6
      go_upto_region 6 with fail
      have L5 : Hd (Keeps (fun _ => False) V6 V6) := hid (Keeps.refl _ _)
      have HSS : Hd (∀ w', Keeps (fun _ => False) V6 w' → (w'.cell? ⟨pm, 0, none⟩ = some (.int .i64 12) ∧ w'.cell? ⟨pm, 1, none⟩ = some (.int .i64 0) ∧ w'.cell? ⟨pm, 2, none⟩ = some (.slice (some ⟨w.heap.size, 0, none⟩) 3 3))) := hid (fun w' hk => by
        have := blk_keep BM.out hk (fun h => h)
        exact ⟨blk_cell this 0, blk_cell this 1, blk_cell this 2⟩)
      have HR : Hd (sendL [] 0 [conW] [⟨0, 2, 4, 0, []⟩] 2 12 0 [1, 2, 3] = ([⟨3, 0, 12, 0, [1, 2, 3]⟩, ⟨7, 0, 12, 0, [1, 2, 3]⟩], 1, true)) := hid (by kernel_rfl)
      go_cut [10, 11] from 40 to 48 (fun u v wx => SentN V6 ([⟨3, 0, 12, 0, [1, 2, 3]⟩, ⟨7, 0, 12, 0, [1, 2, 3]⟩], 1, true) u v wx)
      case first =>
        go_region_held3 (fun w' => w'.cell? ⟨pm, 0, none⟩ = some (.int .i64 12) ∧ w'.cell? ⟨pm, 1, none⟩ = some (.int .i64 0) ∧ w'.cell? ⟨pm, 2, none⟩ = some (.slice (some ⟨w.heap.size, 0, none⟩) 3 3)) (exact HSS.out _ (by repeat (first | (with_reducible exact K2.out) | (with_reducible exact KC.out) | (with_reducible exact Keeps.refl _ _) | (with_reducible apply Keeps.drewN) | (with_reducible apply Keeps.drew) | (with_reducible apply Keeps.alloc) | (refine Keeps.setCell ?_ (.inr (by first | omega | exact Nat.le_refl _ | (simp; done) | (simp; omega))) _))))
          (first
          | (go_at_call 14; refine (contact_any _).mono ?_; rintro e w1 ⟨a1, c1, rfl, hw1, hk1⟩; have KA1 := hid hk1; have KC : Hd (Keeps (fun _ => False) V6 w1) := hid (Keeps.trans (S := fun _ => False) (by repeat (first | (with_reducible exact Keeps.refl _ _) | (with_reducible apply Keeps.drewN) | (with_reducible apply Keeps.drew) | (with_reducible apply Keeps.alloc))) hk1); have HW1 := hid hw1; have zk := hk1.size; (try simp at zk); clear hw1 hk1)
          | (go_at_call 10; refine (Send_any (.slice none 0 0) _ _ [] [conW] [⟨0, 2, 4, 0, []⟩] 0 2 12 0 (some ⟨w.heap.size, 0, none⟩) 3 [1, 2, 3] _ ⟨[], ⟨rfl, .inl ⟨rfl, rfl⟩⟩, fun i x hx => by simp at hx⟩ ((HW1.out.keep (S := fun _ => False) (by repeat (first | (with_reducible exact Keeps.refl _ _) | (with_reducible apply Keeps.drewN) | (with_reducible apply Keeps.drew) | (with_reducible apply Keeps.alloc))) (fun _ _ _ h => h)).mono (fun b h1 _ => h1)) (fts_one rfl (by (repeat (first | (with_reducible refine blk_new' _ _ _ _ ?_) | (with_reducible apply blk_drewN) | (with_reducible apply blk_drew) | (with_reducible apply blk_alloc) | (with_reducible refine blk_keep ?_ KA1.out (fun h => h)))); (first | (with_reducible rfl) | (simp; done)))) ((SM.out.keep (S := fun _ => False) (by (repeat (first | (with_reducible exact KC.out) | (with_reducible exact Keeps.refl _ _) | (with_reducible apply Keeps.drewN) | (with_reducible apply Keeps.drew) | (with_reducible apply Keeps.alloc))); done) (fun _ _ _ h => h)).mono (fun b h1 _ => h1)) (by decide) (by decide) (fun x hx => by simp at hx) (by decide) (fun x hx => by simp at hx ; subst hx; decide) (by decide) (by decide) (by decide) (by decide) (by decide)).mono ?_; rw [HR.out]; rintro e w2 ⟨a2, n2, c2, rfl, hn2, hf2, hk2⟩; have K2 : Hd (Keeps (fun _ => False) V6 w2) := hid (Keeps.trans (S := fun _ => False) (by (repeat (first | (with_reducible exact KC.out) | (with_reducible exact Keeps.refl _ _) | (with_reducible apply Keeps.drewN) | (with_reducible apply Keeps.drew) | (with_reducible apply Keeps.alloc))); done) hk2); have zc := KC.out.size; have z2 := hk2.size; (try simp at z2); (first | (have HNB : Hd (Blk w2 V6.heap.size #[.slice none 0 0, .int .i64 0] 28) := ?hb; (case hb => refine hid (blk_keep ?_ hk2 (fun h => h)); (repeat (first | (with_reducible refine blk_new' _ _ _ _ ?_) | (with_reducible apply blk_drewN) | (with_reducible apply blk_drew) | (with_reducible apply blk_alloc) | (with_reducible refine blk_keep ?_ KA1.out (fun h => h)))); (first | (with_reducible rfl) | (simp; done))); have F0 := blk_cell HNB.out 0; have F1 := blk_cell HNB.out 1; have G0 := blk_free HNB.out 0; have G1 := blk_free HNB.out 1) | (have HNB : Hd (Blk w2 (V6.heap.size + 1) #[.slice none 0 0, .int .i64 0] 28) := ?hb; (case hb => refine hid (blk_keep ?_ hk2 (fun h => h)); (repeat (first | (with_reducible refine blk_new' _ _ _ _ ?_) | (with_reducible apply blk_drewN) | (with_reducible apply blk_drew) | (with_reducible apply blk_alloc) | (with_reducible refine blk_keep ?_ KA1.out (fun h => h)))); (first | (with_reducible rfl) | (simp; done))); have F0 := blk_cell HNB.out 0; have F1 := blk_cell HNB.out 1; have G0 := blk_free HNB.out 0; have G1 := blk_free HNB.out 1) | (have HNB : Hd (Blk w2 w1.heap.size #[.slice none 0 0, .int .i64 0] 28) := ?hb; (case hb => refine hid (blk_keep ?_ hk2 (fun h => h)); (repeat (first | (with_reducible refine blk_new' _ _ _ _ ?_) | (with_reducible apply blk_drewN) | (with_reducible apply blk_drew) | (with_reducible apply blk_alloc) | (with_reducible refine blk_keep ?_ KA1.out (fun h => h)))); (first | (with_reducible rfl) | (simp; done))); have F0 := blk_cell HNB.out 0; have F1 := blk_cell HNB.out 1; have G0 := blk_free HNB.out 0; have G1 := blk_free HNB.out 1) | (have HNB : Hd (Blk w2 (w1.heap.size + 1) #[.slice none 0 0, .int .i64 0] 28) := ?hb; (case hb => refine hid (blk_keep ?_ hk2 (fun h => h)); (repeat (first | (with_reducible refine blk_new' _ _ _ _ ?_) | (with_reducible apply blk_drewN) | (with_reducible apply blk_drew) | (with_reducible apply blk_alloc) | (with_reducible refine blk_keep ?_ KA1.out (fun h => h)))); (first | (with_reducible rfl) | (simp; done))); have F0 := blk_cell HNB.out 0; have F1 := blk_cell HNB.out 1; have G0 := blk_free HNB.out 0; have G1 := blk_free HNB.out 1) | skip); have HF2 := hid hf2; subst hn2; clear hf2 hk2))
        all_goals
          go_wp2_with fail
          go_meet
          first
            | exact sentN_new K2.out (by first | omega | exact Nat.le_refl _ | (simp; done) | (simp; omega)) HF2.out
            | exact sentN_old K2.out (by omega) (by first | omega | exact Nat.le_refl _ | (simp; done) | (simp; omega)) HF2.out HNB.out
      case rest =>
        obtain ⟨b7, a7, c7, rfl, rfl, zb7, B7, F7, K7⟩ := hcut
        generalize wc = V7 at *
        have zp : pm < V6.heap.size := blk_lt BM.out
        replace KA := hid (KA.out.trans K7.out)
        replace BM := hid (blk_keep BM.out K7.out (fun h => h))
        replace A5 := hid (A5.out.keep K7.out (fun _ _ _ h => h))
        replace F7 : Hd (Fls (fun b => pm < b) V7 (.slice a7 2 c7) [⟨3, 0, 12, 0, [1, 2, 3]⟩, ⟨7, 0, 12, 0, [1, 2, 3]⟩]) := hid (F7.out.mono (fun b _ h => by omega))
        replace B7 : Hd (Blk V7 b7 #[.slice a7 2 c7, .int .i64 1] 28) := B7
        clear L5 HSS HR K7 SM
        have hmk : ∀ w, (Instr.makeSlice 35 (.int .i64 11) (.int .i64 11)).run Try.prog w = .ok (.slice (some ⟨w.heap.size, 0, none⟩) 11 11) (w.alloc (.cells (madeCells #[.int .u8 0] 11) 5)) := run_make_row' (P := Try.prog) 35 5 (.int .u8 0) 1 Try.underlying35 infoU8 rfl .i64 .i64 11 (by omega) (by omega)
        have o2 : V7.cell? ⟨pm, 2, none⟩ = some (.slice (some ⟨w.heap.size, 0, none⟩) 3 3) := blk_cell BM.out 2
        have o3 : V7.frozen? ⟨pm, 2, none⟩ = false := blk_free BM.out 2
        have o4 := fun o => keep_cell (keeps_alloc (fun _ => False) V7 o) (fun h => h) o2
        have o5 := fun o => keep_free (keeps_alloc (fun _ => False) V7 o) (fun h => h) o2 o3
        go_upto_region 8 with fail
        rw [show madeCells #[Value.int .u8 0] 11 = (u8s [0, 0, 0, 0, 0, 0, 0, 0, 0, 0, 0]).toArray by kernel_rfl]
        generalize hV8 : World.setCell (World.alloc V7 _) _ _ = V8
        have z7 := blk_lt BM.out
        have KS : Hd (Keeps (fun b => b = pm) V7 V8) := hid (by rw [← hV8]; exact Keeps.setCell (S := fun b => b = pm) (keeps_alloc _ _ _) (.inl rfl) _)
        have BM8 : Hd (Blk V8 pm #[.int .i64 12, .int .i64 0, .slice (some ⟨V7.heap.size, 0, none⟩) 11 11] 37) := hid (by rw [← hV8]; exact blk_set (blk_alloc BM.out _) 2 _)
        have BD : Hd (Blk V8 V7.heap.size (u8s [0, 0, 0, 0, 0, 0, 0, 0, 0, 0, 0]).toArray 5) := hid (by rw [← hV8]; exact blk_other (blk_new _ _ _) (Nat.ne_of_lt z7) _ _)
        replace SM : Hd (Sl (fun b => b < V8.heap.size) V8 (.slice (some ⟨V7.heap.size, 0, none⟩) 11 11) (u8s [0, 0, 0, 0, 0, 0, 0, 0, 0, 0, 0])) := hid ((sl_cells (l := [0, 0, 0, 0, 0, 0, 0, 0, 0, 0, 0]) (by decide) BD.out).mono (fun b h _ => h))
        have z8 : w.heap.size < V7.heap.size := by omega
        replace KA : Hd (Keeps (fun _ => False) w V8) := hid (KA.out.trans' KS.out (fun i hi h => by omega))
        replace A5 := hid (A5.out.keep KS.out (fun b _ h1 h2 => by omega))
        replace F7 := hid (F7.out.keep KS.out (fun b _ h1 h2 => by omega))
        replace B7 := hid (blk_keep B7.out KS.out (fun h => by omega))
        replace BM := BM8
        clear hV8 hmk o2 o3 o4 o5 KS BD BM8
        go_upto_region 8 with fail
        have L5 : Hd (Keeps (fun _ => False) V8 V8) := hid (Keeps.refl _ _)
        have HSS : Hd (∀ w', Keeps (fun _ => False) V8 w' → (w'.cell? ⟨pm, 0, none⟩ = some (.int .i64 12) ∧ w'.cell? ⟨pm, 1, none⟩ = some (.int .i64 0) ∧ w'.cell? ⟨pm, 2, none⟩ = some (.slice (some ⟨V7.heap.size, 0, none⟩) 11 11))) := hid (fun w' hk => by
          have := blk_keep BM.out hk (fun h => h)
          exact ⟨blk_cell this 0, blk_cell this 1, blk_cell this 2⟩)
        have HR : Hd (sendL [] 0 [conW] [] 2 12 0 [0, 0, 0, 0, 0, 0, 0, 0, 0, 0, 0] = ([], 0, false)) := hid (by kernel_rfl)
        go_cut [12, 13] from 51 to 57 (fun u v wx => SentN V8 ([], 0, false) u v wx)
        case first =>
          go_region_held3 (fun w' => w'.cell? ⟨pm, 0, none⟩ = some (.int .i64 12) ∧ w'.cell? ⟨pm, 1, none⟩ = some (.int .i64 0) ∧ w'.cell? ⟨pm, 2, none⟩ = some (.slice (some ⟨V7.heap.size, 0, none⟩) 11 11)) (exact HSS.out _ (by repeat (first | (with_reducible exact K2.out) | (with_reducible exact KC.out) | (with_reducible exact Keeps.refl _ _) | (with_reducible apply Keeps.drewN) | (with_reducible apply Keeps.drew) | (with_reducible apply Keeps.alloc) | (refine Keeps.setCell ?_ (.inr (by first | omega | exact Nat.le_refl _ | (simp; done) | (simp; omega))) _))))
            (first
            | (go_at_call 14; refine (contact_any _).mono ?_; rintro e w1 ⟨a1, c1, rfl, hw1, hk1⟩; have KA1 := hid hk1; have KC : Hd (Keeps (fun _ => False) V8 w1) := hid (Keeps.trans (S := fun _ => False) (by repeat (first | (with_reducible exact Keeps.refl _ _) | (with_reducible apply Keeps.drewN) | (with_reducible apply Keeps.drew) | (with_reducible apply Keeps.alloc))) hk1); have HW1 := hid hw1; have zk := hk1.size; (try simp at zk); clear hw1 hk1)
            | (go_at_call 10; refine (Send_any (.slice none 0 0) _ (.slice none 0 0) [] [conW] [] 0 2 12 0 (some ⟨V7.heap.size, 0, none⟩) 11 [0, 0, 0, 0, 0, 0, 0, 0, 0, 0, 0] _ ⟨[], ⟨rfl, .inl ⟨rfl, rfl⟩⟩, fun i x hx => by simp at hx⟩ ((HW1.out.keep (S := fun _ => False) (by repeat (first | (with_reducible exact Keeps.refl _ _) | (with_reducible apply Keeps.drewN) | (with_reducible apply Keeps.drew) | (with_reducible apply Keeps.alloc))) (fun _ _ _ h => h)).mono (fun b h1 _ => h1)) ⟨[], ⟨rfl, .inl ⟨rfl, rfl⟩⟩, fun i x hx => by simp at hx⟩ ((SM.out.keep (S := fun _ => False) (by (repeat (first | (with_reducible exact KC.out) | (with_reducible exact Keeps.refl _ _) | (with_reducible apply Keeps.drewN) | (with_reducible apply Keeps.drew) | (with_reducible apply Keeps.alloc))); done) (fun _ _ _ h => h)).mono (fun b h1 _ => h1)) (by decide) (by decide) (fun x hx => by simp at hx) (by decide) (fun x hx => by simp at hx) (by decide) (by decide) (by decide) (by decide) (by decide)).mono ?_; rw [HR.out]; rintro e w2 ⟨a2, n2, c2, rfl, hn2, hf2, hk2⟩; have K2 : Hd (Keeps (fun _ => False) V8 w2) := hid (Keeps.trans (S := fun _ => False) (by (repeat (first | (with_reducible exact KC.out) | (with_reducible exact Keeps.refl _ _) | (with_reducible apply Keeps.drewN) | (with_reducible apply Keeps.drew) | (with_reducible apply Keeps.alloc))); done) hk2); have zc := KC.out.size; have z2 := hk2.size; (try simp at z2); (first | (have HNB : Hd (Blk w2 V8.heap.size #[.slice none 0 0, .int .i64 0] 28) := ?hb; (case hb => refine hid (blk_keep ?_ hk2 (fun h => h)); (repeat (first | (with_reducible refine blk_new' _ _ _ _ ?_) | (with_reducible apply blk_drewN) | (with_reducible apply blk_drew) | (with_reducible apply blk_alloc) | (with_reducible refine blk_keep ?_ KA1.out (fun h => h)))); (first | (with_reducible rfl) | (simp; done))); have F0 := blk_cell HNB.out 0; have F1 := blk_cell HNB.out 1; have G0 := blk_free HNB.out 0; have G1 := blk_free HNB.out 1) | (have HNB : Hd (Blk w2 (V8.heap.size + 1) #[.slice none 0 0, .int .i64 0] 28) := ?hb; (case hb => refine hid (blk_keep ?_ hk2 (fun h => h)); (repeat (first | (with_reducible refine blk_new' _ _ _ _ ?_) | (with_reducible apply blk_drewN) | (with_reducible apply blk_drew) | (with_reducible apply blk_alloc) | (with_reducible refine blk_keep ?_ KA1.out (fun h => h)))); (first | (with_reducible rfl) | (simp; done))); have F0 := blk_cell HNB.out 0; have F1 := blk_cell HNB.out 1; have G0 := blk_free HNB.out 0; have G1 := blk_free HNB.out 1) | (have HNB : Hd (Blk w2 w1.heap.size #[.slice none 0 0, .int .i64 0] 28) := ?hb; (case hb => refine hid (blk_keep ?_ hk2 (fun h => h)); (repeat (first | (with_reducible refine blk_new' _ _ _ _ ?_) | (with_reducible apply blk_drewN) | (with_reducible apply blk_drew) | (with_reducible apply blk_alloc) | (with_reducible refine blk_keep ?_ KA1.out (fun h => h)))); (first | (with_reducible rfl) | (simp; done))); have F0 := blk_cell HNB.out 0; have F1 := blk_cell HNB.out 1; have G0 := blk_free HNB.out 0; have G1 := blk_free HNB.out 1) | (have HNB : Hd (Blk w2 (w1.heap.size + 1) #[.slice none 0 0, .int .i64 0] 28) := ?hb; (case hb => refine hid (blk_keep ?_ hk2 (fun h => h)); (repeat (first | (with_reducible refine blk_new' _ _ _ _ ?_) | (with_reducible apply blk_drewN) | (with_reducible apply blk_drew) | (with_reducible apply blk_alloc) | (with_reducible refine blk_keep ?_ KA1.out (fun h => h)))); (first | (with_reducible rfl) | (simp; done))); have F0 := blk_cell HNB.out 0; have F1 := blk_cell HNB.out 1; have G0 := blk_free HNB.out 0; have G1 := blk_free HNB.out 1) | skip); have HF2 := hid hf2; subst hn2; clear hf2 hk2))
          all_goals
            go_wp2_with fail
            go_meet
            first
              | exact sentN_new K2.out (by first | omega | exact Nat.le_refl _ | (simp; done) | (simp; omega)) HF2.out
              | exact sentN_old K2.out (by omega) (by first | omega | exact Nat.le_refl _ | (simp; done) | (simp; omega)) HF2.out HNB.out
        case rest =>
          obtain ⟨b9, a9, c9, rfl, rfl, zb9, -, -, K9⟩ := hcut
          generalize wc = V9 at *
          replace KA := hid (KA.out.trans K9.out)
          replace A5 := hid (A5.out.keep K9.out (fun _ _ _ h => h))
          replace F7 := hid (F7.out.keep K9.out (fun _ _ _ h => h))
          replace B7 := hid (blk_keep B7.out K9.out (fun h => h))
          clear L5 HSS HR K9 zb9 BM SM
          have o0 : V9.cell? ⟨b7, 0, none⟩ = some (.slice a7 2 c7) := blk_cell B7.out 0
          have o1 : V9.cell? ⟨b7, 1, none⟩ = some (.int .i64 1) := blk_cell B7.out 1
          have HQ : Hd (quietL [⟨3, 0, 12, 0, [1, 2, 3]⟩, ⟨7, 0, 12, 0, [1, 2, 3]⟩] = 8) := hid rfl
          go_wp2_with fail
          refine (Quiet_any _ (.slice a7 2 c7) [⟨3, 0, 12, 0, [1, 2, 3]⟩, ⟨7, 0, 12, 0, [1, 2, 3]⟩] 1 V9 F7.out (by decide) (by intro x hx; simp at hx; rcases hx with rfl | rfl <;> decide)).mono ?_
          rw [HQ.out]
          rintro e VX ⟨rfl, hkx⟩
          have KX := hid hkx
          replace B7 := hid (blk_keep B7.out KX.out (fun h => h))
          obtain ⟨fb, fo, rfl, _, hfb, hfc⟩ := fls_cells (F7.out.keep KX.out (fun _ _ _ h => h)) (by decide)
          obtain ⟨t0, _⟩ := hfc 0 _ rfl
          obtain ⟨t1, _⟩ := hfc 1 _ rfl
          obtain ⟨gb, go, rfl, _, hgb, hgc⟩ := ars_cells (A5.out.keep KX.out (fun _ _ _ h => h)) (by decide)
          obtain ⟨_, _, ad, cd, t2, hsl⟩ := hgc 0 _ rfl
          simp only [Nat.zero_mul, Nat.one_mul, Nat.add_zero, List.length_cons, List.length_nil, Nat.zero_add, Nat.reduceAdd] at t0 t1 t2 hsl
          have hst := sl_string hsl
          rw [show strB [1, 2, 3] = { data := #[1, 2, 3] } from rfl] at hst
          have HKX : Hd (Keeps (fun _ => False) w VX) := hid (KA.out.trans KX.out)
          clear o0 o1 hfc hgc hsl hkx
          have o0 : VX.cell? ⟨b7, 0, none⟩ = some (.slice (some ⟨fb, fo, none⟩) 2 c7) := blk_cell B7.out 0
          have o1 : VX.cell? ⟨b7, 1, none⟩ = some (.int .i64 1) := blk_cell B7.out 1
          go_wp2
          go_ret
          exact ⟨rfl, HKX.out⟩
end Go.Proofs.Ytjapmpolagblaaa
