/- The walks of the wire laws' helpers: same, length. -/
import Derived.Test.YtlebocjcelbbpaaRead
namespace Go.Proofs.Ytlebocjcelbbpaa
open Go.RowKit

theorem ItV.keep {K S : Nat → Prop} {w w' : World} {v : Value} {x : It} (h : ItV K w v x) (hk : Keeps S w w') (hd : ∀ b, b < w.heap.size → K b → ¬ S b) : ItV K w' v x := by
  obtain ⟨ab, nb, cb, al, nl, cl, rfl, h1, h2⟩ := h
  exact ⟨ab, nb, cb, al, nl, cl, rfl, h1.keep hk hd, h2.keep hk hd⟩
set_option maxRecDepth 100000 in set_option maxHeartbeats 400000 in
theorem same_any (K1 K2 : Nat → Prop) (v1 v2 : Value) (x y : It) (w : World) (h1 : ItV K1 w v1 x) (h2 : ItV K2 w v2 y) (hu : x.u = y.u) (hn : x.n = y.n) (hb : x.b = y.b) (hl : x.l = y.l) (hbm : y.b.length ≤ 1000000000) (hlm : y.l.length ≤ 1000000000) :
    Calls Try.prog 32 #[v1, v2] w fun e w' => e = .returned (.bool true) ∧ Keeps (fun _ => False) w w' := by
  obtain ⟨ab, nb, cb, al, nl, cl, rfl, h3, h4⟩ := h1
  obtain ⟨ab2, nb2, cb2, al2, nl2, cl2, rfl, h5, h6⟩ := h2
  rw [hu, hn]
  rw [hb] at h3
  rw [hl] at h4
  have H3 := hid h3; have H4 := hid h4; have H5 := hid h5; have H6 := hid h6; have HBM := hid hbm; have HLM := hid hlm
  clear h3 h4 h5 h6 hu hn hb hl hbm hlm
  go_enter Try.func32, Try.ntmps32
  go_wp2_with fail
  generalize hW : World.alloc (World.alloc w _) _ = W
  have B1 : Blk W w.heap.size #[.int .i64 x.kind, .int .u64 (y.u : Nat), .int .i64 y.n, .slice ab nb cb, .slice al nl cl, .int .i64 x.most] 46 := by rw [← hW]; exact blk_alloc (blk_new _ _ _) _
  have B2 : Blk W (w.heap.size + 1) #[.int .i64 y.kind, .int .u64 (y.u : Nat), .int .i64 y.n, .slice ab2 nb2 cb2, .slice al2 nl2 cl2, .int .i64 y.most] 46 := by rw [← hW]; exact blk_new' _ _ _ _ (by simp)
  have hkW : Keeps (fun _ => False) w W := by rw [← hW]; repeat (first | (with_reducible assumption) | (with_reducible exact Keeps.refl _ _) | (with_reducible apply Keeps.drewN) | (with_reducible apply Keeps.drew) | (with_reducible apply Keeps.alloc) | refine Keeps.setCell ?_ (by first | (simp; done) | (simp; omega)) _)
  have HKW := hid hkW; have HB1 := hid B1; have HB2 := hid B2
  have H3' := hid (H3.out.keep hkW (fun _ _ _ h => h)); have H4' := hid (H4.out.keep hkW (fun _ _ _ h => h)); have H5' := hid (H5.out.keep hkW (fun _ _ _ h => h)); have H6' := hid (H6.out.keep hkW (fun _ _ _ h => h))
  clear hW hkW B1 B2 H3 H4 H5 H6
  refine (sameB_true H3'.out H5'.out HBM.out).mono ?_
  rintro e w1 ⟨rfl, hd⟩
  have hk := drawn_keeps (fun _ => False) hd
  have C1 := blk_keep HB1.out hk (fun h => h)
  have C2 := blk_keep HB2.out hk (fun h => h)
  have g1 : w1.cell? ⟨w.heap.size, 4, none⟩ = some (.slice al nl cl) := blk_cell C1 4
  have g2 : w1.cell? ⟨w.heap.size + 1, 4, none⟩ = some (.slice al2 nl2 cl2) := blk_cell C2 4
  have H4 := hid (H4'.out.keep hk (fun _ _ _ h => h)); have H6 := hid (H6'.out.keep hk (fun _ _ _ h => h))
  have HK1 := hid (HKW.out.trans hk)
  clear C1 C2 hk hd
  go_wp2_with fail
  refine (sameI_true H4.out H6.out HLM.out).mono ?_
  rintro e w2 ⟨rfl, hd⟩
  have HK2 := hid (HK1.out.trans (drawn_keeps _ hd)); clear hd
  go_wp2
  go_ret
  exact ⟨rfl, HK2.out⟩
set_option maxRecDepth 100000 in set_option maxHeartbeats 400000 in
theorem length_any (K : Nat → Prop) (v : Value) (x : It) (w : World) (h : ItV K w v x) :
    Calls Try.prog 34 #[v] w fun e w' => e = .returned (.int .i64 ((if x.kind = 2 then x.b.length else x.l.length : Nat) : Int)) ∧ Keeps (fun _ => False) w w' := by
  obtain ⟨ab, nb, cb, al, nl, cl, rfl, h3, h4⟩ := h
  have hb : nb = x.b.length := by obtain ⟨_, _, h5, _⟩ := h3.bytes; injection h5
  have hl : nl = x.l.length := by obtain ⟨_, _, h5, _⟩ := h4.ints; injection h5
  subst hb hl
  clear h3 h4
  by_cases h2 : x.kind = 2
  · have t2 : (x.kind == 2) = true := by simp; exact h2
    rw [if_pos h2]
    clear h2
    generalize x.b.length = m
    go_enter Try.func34, Try.ntmps34
    go_wp2
    go_ret
    exact ⟨rfl, (by repeat (first | (with_reducible assumption) | (with_reducible exact Keeps.refl _ _) | (with_reducible apply Keeps.drewN) | (with_reducible apply Keeps.drew) | (with_reducible apply Keeps.alloc) | refine Keeps.setCell ?_ (by first | (simp; done) | (simp; omega)) _))⟩
  · have t2 : (x.kind == 2) = false := by simp; exact h2
    rw [if_neg h2]
    clear h2
    generalize x.l.length = m
    go_enter Try.func34, Try.ntmps34
    go_wp2
    go_ret
    exact ⟨rfl, (by repeat (first | (with_reducible assumption) | (with_reducible exact Keeps.refl _ _) | (with_reducible apply Keeps.drewN) | (with_reducible apply Keeps.drew) | (with_reducible apply Keeps.alloc) | refine Keeps.setCell ?_ (by first | (simp; done) | (simp; omega)) _))⟩
end Go.Proofs.Ytlebocjcelbbpaa
