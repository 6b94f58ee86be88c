/- TopCustody: step. -/
import Derived.Test.YtgfekgceeigdiaaDoorTopRel
namespace Go.Proofs.YtgfekgceeigdiaaDoor
open Go.RowKit
attribute [local go_sem ↓] Go.wp_at_zero Go.wp_at_succ
def PasR (U : Nat → Bu) (N : Nat) (K : Nat → Prop) (s : Sto) (v : Value) (w : World) : Prop := ∃ b1 m1 d1 b2 m2 d2 b3 m3 d3, v = .tuple #[.agg #[.int .i64 10000, .slice b1 m1 d1, .slice b2 m2 d2, .slice b3 m3 d3], .int .i64 0] ∧ StK U N K w s (.slice b1 m1 d1) (.slice b2 m2 d2) (.slice b3 m3 d3)
theorem pasR_k {U : Nat → Bu} {N lo : Nat} {s : Sto} : ∀ (_c : Nat) (K S : Nat → Prop) v w w', PasR U N (fun b => K b ∧ lo ≤ b) s v w → Keeps S w w' → (∀ b, b < w.heap.size → K b → ¬ S b) → PasR U N (fun b => K b ∧ lo ≤ b) s v w' := by
  intro _ K S v w w' h hk hd
  obtain ⟨b1, m1, d1, b2, m2, d2, b3, m3, d3, e, h⟩ := h
  exact ⟨b1, m1, d1, b2, m2, d2, b3, m3, d3, e, h.keep hk (fun b hb h => hd b hb h.1)⟩
theorem pasR_m {U : Nat → Bu} {N lo : Nat} {s : Sto} : ∀ (_c : Nat) (K K' : Nat → Prop) v w, PasR U N (fun b => K b ∧ lo ≤ b) s v w → (∀ b, b < w.heap.size → K b → K' b) → PasR U N (fun b => K' b ∧ lo ≤ b) s v w := by
  intro _ K K' v w h hd
  obtain ⟨b1, m1, d1, b2, m2, d2, b3, m3, d3, e, h⟩ := h
  exact ⟨b1, m1, d1, b2, m2, d2, b3, m3, d3, e, h.mono (fun b hb h => ⟨hd b hb h.1, h.2⟩)⟩
def set2 (W : World) (p : Nat) (v1 v2 : Value) : World := (W.setCell ⟨p, 12, none⟩ v1).setCell ⟨p, 13, none⟩ v2
theorem set2_keeps (W : World) (p : Nat) (v1 v2 : Value) : Keeps (fun b => b = p) W (set2 W p v1 v2) :=
  ((Keeps.refl (fun b => b = p) W).setCell (p := ⟨p, 12, none⟩) (.inl rfl) _).setCell (p := ⟨p, 13, none⟩) (.inl rfl) _
theorem keep_any {p : Nat} {w w' : World} (h : Keeps (fun _ => False) w w') : Keeps (fun b => b = p) w w' := h.mono (fun _ _ h => h.elim)
theorem stepK_zip {zl : ZL} {T : Int} : Li.stepK (zl.map (·.1)) T = (zl.takeWhile (fun z => decide (z.1.t ≤ T))).length := by
  unfold Li.stepK
  induction zl with
  | nil => rfl
  | cons z l ih =>
    rw [List.map_cons]
    by_cases h : decide (z.1.t ≤ T) = true
    · rw [List.takeWhile_cons_of_pos (p := fun x : Li.Flt => decide (x.t ≤ T)) h, List.takeWhile_cons_of_pos (p := fun z : Li.Flt × Fg => decide (z.1.t ≤ T)) h, List.length_cons, List.length_cons, ih]
    · rw [List.takeWhile_cons_of_neg (p := fun x : Li.Flt => decide (x.t ≤ T)) h, List.takeWhile_cons_of_neg (p := fun z : Li.Flt × Fg => decide (z.1.t ≤ T)) h]; rfl
set_option maxRecDepth 100000 in
theorem step_start {U : Nat → Bu} {N : Nat} {fts : List Li.Ft} {p : Nat} {w : World} {r : Rl} (hR : RelW U N fts p w r) (hI : TInvR N r) (T C : Nat) (hC : pot r.fl + r.cn ≤ C) (hcap : C ≤ 100000) :
    ∃ (va : Option Addr) (nz vc : Nat) (cn : Int) (zk : ZL) (rest : List Fg), w.cell? ⟨p, 12, none⟩ = some (.slice va nz vc) ∧ w.cell? ⟨p, 13, none⟩ = some (.int .i64 cn) ∧
      r.fl = zk.map (·.2) ++ rest ∧ (∀ f ∈ zk.map (·.2), f.t ≤ (T : Int)) ∧ (∀ f ∈ rest, (T : Int) < f.t) ∧ (∀ z ∈ zk, fRel U N z.1 z.2) ∧ (∀ f ∈ zk.map (·.2), fOk N { r with fl := rest } f) ∧
      ∀ X, Keeps (fun _ => False) w X → Calls Tryd.prog 29 #[.agg #[.slice va nz vc, .int .i64 cn], .int .i64 (T : Nat)] X fun e w' => ∃ a n c ao co, e = .returned (.tuple #[.agg #[.slice a n c, .int .i64 cn], .slice ao zk.length co]) ∧ Keeps (fun _ => False) X w' ∧
        Li.Ars (fun b => b ≠ p) w' (.slice ao zk.length co) (zk.map (·.1)) ∧ (∀ Y, Keeps (fun _ => False) w' Y → ArrSt U N fts T (zk.map (·.2)) { r with fl := rest } C p 0 (set2 Y p (.slice a n c) (.int .i64 cn))) := by
  obtain ⟨zl, va, vc, fa, fc, x1, x2, x3, y1, y2, y3, z1, z2, z3, h⟩ := hR
  obtain ⟨k, hk⟩ : ∃ k, (zl.takeWhile (fun z => decide (z.1.t ≤ (T : Int)))).length = k := ⟨_, rfl⟩
  have hkl : k ≤ zl.length := by rw [← hk]; exact (List.takeWhile_sublist _).length_le
  have hzk : (zl.take k).length = k := by rw [List.length_take]; omega
  have e0 : r.fl = (zl.take k).map (·.2) ++ (zl.drop k).map (·.2) := by rw [← List.map_append, List.take_append_drop]; exact h.fl
  have hlz : zl.length ≤ 100000 := by
    have := pot_len r.fl
    rw [h.fl, List.length_map, ← h.fl] at this; omega
  have t1 : ∀ z ∈ zl.take k, z.1.t ≤ (T : Int) := fun z hz => by
    rw [← hk] at hz
    simpa using takeWhile_all z hz
  have t2 : ∀ z ∈ zl.drop k, (T : Int) < z.1.t := fun z hz => by
    have hs := h.z.srt
    rw [← List.take_append_drop k zl] at hs
    obtain ⟨_, s2, _⟩ := List.pairwise_append.1 hs
    cases hd : zl.drop k with
    | nil => rw [hd] at hz; cases hz
    | cons y m =>
      have hy : (T : Int) < y.1.t := by
        rw [← hk] at hd
        have := drop_head hd
        simp at this; omega
      rw [hd] at hz s2
      rcases List.mem_cons.1 hz with rfl | hz
      · exact hy
      · have := (List.pairwise_cons.1 s2).1 z hz; omega
  have hrest : TInvR N { r with fl := (zl.drop k).map (·.2) } := ⟨hI.k0, hI.k1, hI.k2, hI.all0, hI.all1, hI.all2, fun f hf => fOk_mono (hI.fl f (by rw [e0]; exact List.mem_append.2 (.inr hf))) (fun _ h => h) (fun _ h => h)⟩
  refine ⟨va, (zl.map (fun z : Li.Flt × Fg => z.1)).length, vc, (r.cn : Int), zl.take k, (zl.drop k).map (·.2), blk_cell h.B 12, blk_cell h.B 13, e0, fun f hf => ?_, fun f hf => ?_, fun z hz => h.z.rel z (List.mem_of_mem_take hz), fun f hf => fOk_mono (hI.fl f (by rw [e0]; exact List.mem_append.2 (.inl hf))) (fun _ h => h) (fun _ h => h), fun X hX => ?_⟩
  · obtain ⟨z, hz, rfl⟩ := List.mem_map.1 hf
    rw [← (h.z.rel z (List.mem_of_mem_take hz)).1]; exact t1 z hz
  · obtain ⟨z, hz, rfl⟩ := List.mem_map.1 hf
    rw [← (h.z.rel z (List.mem_of_mem_drop hz)).1]; exact t2 z hz
  · have hc := Li.Step_any (.slice va (zl.map (·.1)).length vc) (zl.map (·.1)) (r.cn : Int) (T : Nat) X ((h.vf.keep hX (fun _ _ _ h => h)).mono (fun b hb _ => hb)) (by rw [List.length_map]; omega) (fun x hx => by have := zok_len h.z x hx; omega)
    refine hc.mono ?_
    rintro e w' ⟨a, n, c, ao, no, co, rfl, hn, hno, hfl, har, hk2⟩
    rw [stepK_zip, hk] at hn hno hfl har
    rw [← List.map_drop] at hn hfl
    rw [← List.map_take] at hno har
    have hno2 : no = (zl.take k).length := by rw [hno, List.length_map]
    subst hno2
    have ne : ∀ b, b < w'.heap.size → X.heap.size ≤ b → b ≠ p := fun b _ hb e => by have := blk_lt h.B; have := hX.size; omega
    refine ⟨a, n, c, ao, co, rfl, hk2, har.mono ne, fun Y hY => ?_⟩
    have g := h.keep ((hX.trans hk2).trans hY)
    have ks := set2_keeps Y p (.slice a n c) (.int .i64 (r.cn : Int))
    have hfl2 := ((hfl.mono ne).keep hY (fun _ _ _ h => h)).keep ks (fun _ _ h => h)
    rw [hn] at hfl2 ks ⊢
    refine ⟨{ r with fl := (zl.drop k).map (·.2) }, rfl, hrest, fun _ h => h, fun _ h => h, ⟨zl.drop k, a, c, fa, fc, x1, x2, x3, y1, y2, y3, z1, z2, z3, rfl, ⟨fun z hz => h.z.rel z (List.mem_of_mem_drop hz), h.z.srt.sublist (List.drop_sublist ..)⟩, blk_set (blk_set g.B 12 _) 13 _, g.s0.keep ks, g.s1.keep ks, g.s2.keep ks, hfl2, Li.Fts.keepT g.ft ks (fun _ _ h => h), g.nib.keep ks (fun e => by have := g.pos; omega), g.pos⟩, ?_⟩
    show pot ((zl.drop k).map (·.2)) + r.cn + pot (((zl.take k).map (·.2)).drop 0) ≤ C
    rw [e0, pot_append] at hC
    rw [List.drop_zero]; omega
/-- the arrivals' cells, whatever was done to the relay since -/
theorem node_eq {i j : Nat} (hi : i ≤ 2) (hj : j ≤ 2) : ((node (i : Int)) == node (j : Int)) = decide (j = i) := by
  rcases (by omega : i = 0 ∨ i = 1 ∨ i = 2) with rfl | rfl | rfl <;> rcases (by omega : j = 0 ∨ j = 1 ∨ j = 2) with rfl | rfl | rfl <;> decide
set_option maxRecDepth 100000 in
set_option maxHeartbeats 4000000 in
theorem step_any {U : Nat → Bu} {N : Nat} {fts : List Li.Ft} (hU : UOk U N) (hF : FtsOk fts) {p : Nat} {w : World} {r : Rl} (hR : RelW U N fts p w r) (hI : TInvR N r) (T C : Nat) (hT : T < 1000) (hC : pot r.fl + r.cn ≤ C) (hcap : C ≤ 90000) :
    Calls Tryd.prog 14 #[.pointer (some ⟨p, 0, none⟩), .int .i64 (T : Nat)] w fun e w' => e = .returned (.bool true) ∧ ∃ r', Tick (ksOf fts) T r r' ∧ RelW U N fts p w' r' ∧ pot r'.fl + r'.cn ≤ C + 18 ∧ Keeps (fun b => b = p) w w' := by
  have lp := hR.lt
  obtain ⟨va, nz, vc, cn, zk, rest, o12, o13, e0, e1, e2, e3, e4, hst⟩ := step_start hR hI T C hC (by omega)
  have HFR := hid (fun X (hk : Keeps (fun _ => False) w X) (j : Nat) => (hk.frozen (p := ⟨p, j, none⟩) lp (fun h => h)).trans (hR.free j))
  have HE0 := hid e0; have HE1 := hid e1; have HE2 := hid e2; have HE3 := hid e3; have HE4 := hid e4; have HST := hid hst
  have HU := hid hU; have HF := hid hF; have HR := hid hR; have HI := hid hI
  have HO := hid (And.intro o12 o13)
  have hnob : zk.length ≤ 90000 := by have h1 := pot_len r.fl; have h2 := congrArg List.length e0; rw [List.length_append, List.length_map] at h2; omega
  clear e0 e1 e2 e3 e4 hst hU hF hR hI hC
  obtain ⟨gl, hgl⟩ : ∃ g, zk.map (·.2) = g := ⟨_, rfl⟩
  obtain ⟨r1, hr1⟩ : ∃ q, { r with fl := rest } = q := ⟨_, rfl⟩
  obtain ⟨no, hno⟩ : ∃ n, zk.length = n := ⟨_, rfl⟩
  have HGL := hid hgl; have HR1 := hid hr1; have HNO := hid hno
  have hglen : gl.length = no := by rw [← hgl, List.length_map, hno]
  have HGN := hid hglen
  rw [hgl] at HE0 HE1 HE4
  rw [hno] at hnob
  simp only [hgl, hr1, hno] at HST HE4
  clear hgl hr1 hno hglen
  go_enter Tryd.func14, Tryd.ntmps14
  go_wp2_with fail
  refine (HST.out _ (by exact Keeps.refl _ _)).mono ?_
  rintro e W1 ⟨a, n, c, ao, co, rfl, hk1, har, hs0⟩
  have HS0 := hid hs0; have HAR := hid har
  have HK1 := hid hk1
  clear hs0 har HST o12 o13
  have z1 := hk1.size
  clear hk1
  go_upto_region 2 with fail
  generalize hW : World.alloc W1 _ = W2
  have KS : Hd (Keeps (fun _ => False) W1 W2) := hid (by rw [← hW]; exact (Keeps.alloc (Keeps.refl (fun _ => False) W1) _))
  have BK : Hd (Blk W2 W1.heap.size #[(.slice a n c), (.int .i64 cn)] 48) := hid (by rw [← hW]; exact (blk_new _ _ _))
  have HK : Hd (Keeps (fun _ => False) W1 W2) := hid KS.out
  have z_W2 : W1.heap.size + 1 ≤ W2.heap.size := by rw [← hW]; simp
  clear hW KS
  have o_BK_0 : W2.cell? ⟨W1.heap.size, 0, none⟩ = some ((.slice a n c)) := blk_cell BK.out 0
  have o_BK_1 : W2.cell? ⟨W1.heap.size, 1, none⟩ = some ((.int .i64 cn)) := blk_cell BK.out 1
  have hkY := HK1.out.trans HK.out
  have hfr := HFR.out _ hkY
  have f12 := hfr 12
  have f13 := hfr 13
  have p12 := (hkY.cell (p := ⟨p, 12, none⟩) lp (fun h => h)).trans HO.out.1
  have p13 := (hkY.cell (p := ⟨p, 13, none⟩) lp (fun h => h)).trans HO.out.2
  go_upto_region 3 with fail
  clear f12 f13 p12 p13 hfr
  clear o_BK_0 o_BK_1
  generalize hW3 : World.setCell (World.setCell W2 _ _) _ _ = W3
  have HA0 : Hd (ArrSt U N fts T gl r1 C p 0 W3) := hid (by rw [← hW3]; exact HS0.out W2 HK.out)
  have ks : Keeps (fun b => b = p) W2 W3 := by rw [← hW3]; exact set2_keeps W2 p _ _
  have HAR3 : Hd (Li.Ars (fun b => b ≠ p) W3 (.slice ao no co) (zk.map (·.1))) := hid (((HAR.out.keep HK.out (fun _ _ _ h => h))).keep ks (fun _ _ h => h))
  have HK3 : Hd (Keeps (fun b => b = p) w W3) := hid ((hkY.mono (fun _ _ h => h.elim)).trans ks)
  clear hW3 ks hkY HK HK1 HS0 HAR BK
  go_wp2_with fail
  go_loopw [7] (fun iv wr => ∃ k : Nat, iv = .int .i64 (k : Int) ∧ k ≤ no ∧ Hd (ArrSt U N fts T gl r1 C p k wr) ∧ Hd (Keeps (fun b => b = p) W3 wr)) (fun iv _ => no - (intOf iv).toNat)
  case atStart => exact ⟨0, rfl, Nat.zero_le _, HA0, hid (Keeps.refl _ _)⟩
  case round =>
    obtain ⟨V, rfl⟩ : ∃ V, V = wr := ⟨_, rfl⟩
    obtain ⟨k, rfl, hk, HA, HKV⟩ := hrel
    by_cases hlt : k < no
    · have q1 : (k : Int) < no := by omega
      have q2 : (0 : Int) ≤ k := by omega
      obtain ⟨z, hz⟩ : ∃ z, zk[k]? = some z := ⟨zk[k]'(by rw [HNO.out]; exact hlt), List.getElem?_eq_getElem _⟩
      have hzx : (zk.map (·.1))[k]? = some z.1 := by rw [List.getElem?_map, hz]; rfl
      have hzf : gl[k]? = some z.2 := by rw [← HGL.out, List.getElem?_map, hz]; rfl
      obtain ⟨bA, oA, rfl, hbA, hbA2, hcells⟩ := ars_cellsT HAR3.out (by rw [List.length_map, HNO.out]; omega)
      obtain ⟨-, c1, ad, cd, c2, hsl⟩ := hcells k z.1 hzx
      have hfr := HE3.out z (List.mem_of_getElem? hz)
      have hfo := HE4.out z.2 (List.mem_of_getElem? hzf)
      obtain ⟨tq, htq⟩ : ∃ t, z.2.to = t := ⟨_, rfl⟩
      have hgq : z.1.g = node (tq : Int) := by rw [← htq]; exact hfr.2.2.1
      have htq2 : tq ≤ 2 := by rw [← htq]; exact hfr.2.1
      obtain ⟨dl, hdl⟩ : ∃ n, z.1.d.length = n := ⟨_, rfl⟩
      have HARR : Hd (∀ X, ArrSt U N fts T gl r1 C p k X → Keeps (fun b => b = p) W3 X → Calls Tryd.prog 31 #[.pointer (some ⟨p, 0, none⟩), .int .i64 (T : Nat), .int .i64 (tq : Nat), .slice ad dl cd] X fun e w' => e = .returned (.tuple #[]) ∧ ArrSt U N fts T gl r1 C p (k + 1) w' ∧ Keeps (fun b => b = p) X w') := hid (fun X hX hkX => by
        have h := arrSt_step HU.out HF.out hX hzf hfr hfo hT (by omega) ad cd (hsl.keep hkX (fun _ _ h => h))
        rw [htq, hdl] at h
        exact h)
      rw [hgq] at c1
      rw [hdl] at c2
      have HC1 := hid c1; have HC2 := hid c2
      have HBA := hid hbA
      clear c1 c2 hsl hcells hfr hfo hgq hdl htq hz hzx hzf hbA
      go_wp2_with fail
      go_loopw [8] (fun iv wr => ∃ m : Nat, iv = .int .i64 (m : Int) ∧ m ≤ 3 ∧ Hd (ArrSt U N fts T gl r1 C p (if m ≤ tq then k else k + 1) wr) ∧ Hd (Keeps (fun b => b = p) W3 wr)) (fun iv _ => 3 - (intOf iv).toNat)
      case atStart => exact ⟨0, rfl, Nat.zero_le _, by rw [if_pos (Nat.zero_le _)]; exact HA, HKV⟩
      case round =>
        obtain ⟨X, rfl⟩ : ∃ V, V = wr := ⟨_, rfl⟩
        obtain ⟨m, rfl, hm, HB, HKX⟩ := hrel
        by_cases hl3 : m < 3
        · have p1 : (m : Int) < 3 := by omega
          have p2 : (0 : Int) ≤ m := by omega
          have x1 : X.cell? ⟨bA, oA + k * 3 + 1, none⟩ = some (.int .i64 (node (tq : Int))) := keep_cell HKX.out (fun h => HBA.out h) HC1.out
          have e1 : ∀ y : Ext X, y.w.cell? _ = some _ := ext_cell x1
          have HND : Hd (∀ Y, Calls Tryd.prog 30 #[.int .i64 (m : Int)] Y fun e w' => e = .returned (.int .i64 (node (m : Int))) ∧ Y = w') := hid (fun Y => nodeOf_any (m : Int) Y)
          have hne : (node (tq : Int) == node (m : Int)) = decide (m = tq) := node_eq htq2 (by omega)
          obtain ⟨g1, hg1⟩ : ∃ g, node (tq : Int) = g := ⟨_, rfl⟩
          obtain ⟨g2, hg2⟩ : ∃ g, node (m : Int) = g := ⟨_, rfl⟩
          rw [hg1, hg2] at hne
          rw [hg1] at e1
          rw [hg2] at HND
          clear hg1 hg2 x1
          go_upto_region 9 with fail
          refine wp_region_ext (by kernel_rfl) (by kernel_rfl) ?_
          repeat (go_big_quiet_step (first | (go_at_call 30; exact ext_same (HND.out _))))
          refine wpQuiet_nil ?_
          rintro _ ⟨y, rfl⟩
          clear e1 HND
          have hky := y.k
          generalize y.w = X2 at *
          clear y
          skip
          have HKX2 : Hd (Keeps (fun b => b = p) W3 X2) := hid (HKX.out.trans (hky.mono (fun _ _ h => h.elim)))
          have HB2 := hid (HB.out.keep hky)
          clear hky
          by_cases hmt : m = tq
          · have hn1 : (g1 == g2) = true := by rw [hne]; exact decide_eq_true hmt
            clear hne
            have c2 : X2.cell? ⟨bA, oA + k * 3 + 2, none⟩ = some (.slice ad dl cd) := keep_cell HKX2.out (fun h => HBA.out h) HC2.out
            have hb2 : ArrSt U N fts T gl r1 C p k X2 := by have h := HB2.out; rw [if_pos (by omega)] at h; exact h
            obtain rfl : m = tq := hmt
            go_wp2_with fail
            refine (HARR.out _ hb2 HKX2.out).mono ?_
            rintro e X3 ⟨rfl, ha3, hk3⟩
            have HA3 := hid ha3; have HK3' := hid (HKX2.out.trans hk3)
            clear ha3 hk3 hb2 c2
            go_wp2
            go_roundw
            case rel => exact ⟨m + 1, by go_num, by omega, by rw [if_neg (by omega)]; exact HA3, HK3'⟩
            case measure => simp [intOf]; omega
          · have hn1 : (g1 == g2) = false := by rw [hne]; exact decide_eq_false hmt
            clear hne
            have e : (if m ≤ tq then k else k + 1) = (if m + 1 ≤ tq then k else k + 1) := by rcases Nat.lt_or_gt_of_ne hmt with h | h; (rw [if_pos (by omega), if_pos (by omega)]); (rw [if_neg (by omega), if_neg (by omega)])
            rw [e] at HB2
            go_wp2
            go_roundw
            case rel => exact ⟨m + 1, by go_num, by omega, HB2, HKX2⟩
            case measure => simp [intOf]; omega
        · obtain rfl : m = 3 := by omega
          have HB2 : Hd (ArrSt U N fts T gl r1 C p (k + 1) X) := hid (by have h := HB.out; rw [if_neg (by omega)] at h; exact h)
          go_wp2
          go_roundw
          case rel => exact ⟨k + 1, by go_num, by omega, HB2, HKX⟩
          case measure => simp [intOf]; omega
    · have hkn : k = no := by omega
      have q1 : ¬ ((k : Int) < no) := by omega
      subst hkn
      obtain ⟨ra, h1, h2, -, -, h5, h6⟩ := HA.out
      rw [List.take_of_length_le (by rw [HGN.out]; exact Nat.le_refl _)] at h1
      have HR1A := hid h1
      have HND0 : Hd (NdSt U N fts T ra C p 0 V) := hid ⟨ra, h5, h2, by omega, fun _ => rfl, fun h => by omega, fun h => by omega⟩
      have HR1A := hid h1
      have HND0 : Hd (NdSt U N fts T ra C p 0 V) := hid ⟨ra, h5, h2, by omega, fun _ => rfl, fun h => by omega, fun h => by omega⟩
      clear h1 h2 h5 h6 HA
      go_wp2_with fail
      go_loopw [9] (fun iv wr => ∃ n : Nat, iv = .int .i64 (n : Int) ∧ n ≤ 2 ∧ Hd (NdSt U N fts T ra C p n wr) ∧ Hd (Keeps (fun b => b = p) W3 wr)) (fun iv _ => 2 - (intOf iv).toNat)
      case atStart => exact ⟨0, rfl, Nat.zero_le _, HND0, HKV⟩
      case round =>
        obtain ⟨X, rfl⟩ : ∃ V, V = wr := ⟨_, rfl⟩
        obtain ⟨n, rfl, hn, HN, HKX⟩ := hrel
        by_cases hl2 : n < 2
        · have p1 : (n : Int) < 2 := by omega
          have p2 : (0 : Int) ≤ n := by omega
          have p3 : (n : Int) < 3 := by omega
          obtain ⟨r9, h1, h2, h3, hnext⟩ := ndSt_next HN.out hl2
          have HR9 := hid h1; have HI9 := hid h2; have HNX := hid hnext
          clear h1 h2 hnext HN
          by_cases h7 : T % 7 = 0
          · have hrem : (T : Int).tmod 7 = 0 := by rw [Int.tmod_eq_emod_of_nonneg (by omega)]; omega
            obtain ⟨a1, n1, cc1, a2, n2, cc2, a3, n3, cc3, o0, o1, o2, o3, hrt, hof0, hofi, hset⟩ := RelW.node HU.out HR9.out HI9.out (k := n) (by omega)
            have HRT := hid hrt
            clear hrt hof0 hofi hset
            have fr := HR9.out.free
            have lpX := HR9.out.lt
            go_upto_region 15 with fail
            go_region_with (first | (go_at_call 32; refine (HRT.out _ ((Keeps.refl _ _).drew)).mono ?_; rintro e w5 ⟨b1, m1, d1, b2, m2, d2, b3, m3, d3, rfl, hk5, hrel5⟩; have f0 := (hk5.frozen (p := ⟨p, n * 4, none⟩) lpX (fun h => h)).trans (fr _); have f1 := (hk5.frozen (p := ⟨p, n * 4 + 1, none⟩) lpX (fun h => h)).trans (fr _); have f2 := (hk5.frozen (p := ⟨p, n * 4 + 2, none⟩) lpX (fun h => h)).trans (fr _); have f3 := (hk5.frozen (p := ⟨p, n * 4 + 3, none⟩) lpX (fun h => h)).trans (fr _); have g0 := (hk5.cell (p := ⟨p, n * 4, none⟩) lpX (fun h => h)).trans o0; have g1 := (hk5.cell (p := ⟨p, n * 4 + 1, none⟩) lpX (fun h => h)).trans o1; have g2 := (hk5.cell (p := ⟨p, n * 4 + 2, none⟩) lpX (fun h => h)).trans o2; have g3 := (hk5.cell (p := ⟨p, n * 4 + 3, none⟩) lpX (fun h => h)).trans o3))
            clear f0 f1 f2 f3 g0 g1 g2 g3 o0 o1 o2 o3 fr
            obtain ⟨s, hs⟩ : ∃ s, retryS (r9.s n) = s := ⟨_, rfl⟩
            rw [hs] at hrel5
            have HS : Hd (s = (if T % 7 = 0 then retryS (r9.s n) else r9.s n)) := hid (by rw [if_pos h7, hs])
            have HI10 : Hd (TInvR N (r9.put n s)) := hid (by rw [← hs]; exact retry_inv HI9.out hl2)
            generalize hW5 : World.setCell (World.setCell (World.setCell (World.setCell w5 _ _) _ _) _ _) _ _ = W5
            have HR10 : Hd (RelW U N fts p W5 (r9.put n s)) := hid (by rw [← hW5]; exact hrel5)
            have HK10 : Hd (Keeps (fun b => b = p) W3 W5) := hid (HKX.out.trans ((keep_any (((Keeps.refl _ X).drew).trans hk5)).trans (by rw [← hW5]; exact set4_keeps w5 p n _ _ _)))
            clear hW5 hrel5 hk5 hs HRT
            simp only [Exit.then]
            obtain ⟨a1, n1, cc1, a2, n2, cc2, a3, n3, cc3, o0, o1, o2, o3, hrt, hof0, hofi, hset⟩ := RelW.node HU.out HR10.out HI10.out (k := n) (by omega)
            rw [put_s r9 n (by omega)] at hof0 hofi
            clear hrt
            have HSET := hid hset
            clear hset
            have HOC := hid (And.intro o0 (And.intro o1 (And.intro o2 o3)))
            have fr := HR10.out.free
            have lpW := HR10.out.lt
            cases hnx : nextS s with
            | none =>
              have HOF := hid (hof0 hnx)
              clear hof0 hofi
              go_wp2_with fail
              refine (HOF.out _ (Keeps.refl _ _)).mono ?_
              unfold offZ
              rintro e w7 ⟨rfl, hk7⟩
              have HK7 := hid hk7
              clear hk7 HOF o0 o1 o2 o3 fr
              go_wp2
              go_roundw
              case rel =>
                refine ⟨n + 1, by go_num, by omega, hid (HNX.out _ (r9.put n s) ⟨s, HS.out, .inl ⟨hnx, rfl⟩⟩ (HR10.out.keep (by first | exact HK7.out.alloc _ | exact HK7.out)) (by obtain ⟨e1, e2⟩ := put_fl r9 n s; rw [e1, e2]; omega)), hid (HK10.out.trans (keep_any (by first | exact HK7.out.alloc _ | exact HK7.out)))⟩
              case measure => simp [intOf]; omega
            | some i =>
              obtain ⟨hiN, hof, hps⟩ := hofi i hnx
              have HOF := hid hof; have HPS := hid hps
              clear hof hps hof0 hofi
              obtain ⟨xl, hxl⟩ : ∃ n, (U i).d.length = n := ⟨_, rfl⟩
              have HXL := hid hxl
              rw [hxl] at HOF
              clear hxl
              obtain ⟨ug, hug⟩ : ∃ g, (U i).g = g := ⟨_, rfl⟩
              obtain ⟨uo, huo⟩ : ∃ g, (U i).o = g := ⟨_, rfl⟩
              obtain ⟨ua, hua⟩ : ∃ g, (U i).a = g := ⟨_, rfl⟩
              obtain ⟨us, hus⟩ : ∃ g, (U i).s = g := ⟨_, rfl⟩
              have HUG := hid hug; have HUO := hid huo; have HUA := hid hua; have HUS := hid hus
              rw [hug, huo, hua, hus] at HOF
              clear hug huo hua hus
              obtain ⟨ol, hol⟩ : ∃ n, (offL (U i)).length = n := ⟨_, rfl⟩
              skip
              go_wp2_with fail
              refine (HOF.out _ (Keeps.refl _ _)).mono ?_
              rintro e w7 ⟨ad, cd, rfl, hsl, hk7⟩
              have HSL := hid hsl; have HK7 := hid hk7
              clear hsl hk7 HOF o0 o1 o2 o3 fr
              have HOFF : Hd (∀ Y, Sl (fun b => b ≠ p) Y (.slice ad xl cd) (u8s (U i).d) → Calls Tryd.prog 36 #[.agg #[.int .i64 (i : Int), .int .i64 0, .int .i64 0, .int .i64 ug, .int .i64 uo, .int .i64 ua, .int .u32 (us : Int), .slice ad xl cd]] Y fun e w' => ∃ a c, e = .returned (.slice a ol c) ∧ Sl (fun _ => True) w' (.slice a ol c) (u8s (offL (U i))) ∧ Keeps (fun _ => False) Y w') := hid (fun Y hY => by
                have h := offering_any (U i) (fun b => b ≠ p) ad cd Y (by rw [HXL.out]; exact hY) (HU.out.ok i hiN)
                rw [HXL.out, HUG.out, HUO.out, HUA.out, HUS.out, HU.out.id, HU.out.zf, HU.out.zt] at h
                refine h.mono ?_
                rintro e w' ⟨a, n, c, rfl, hn, ho, hk⟩
                have hn2 : n = ol := by rw [hn, u8s_length, hol]
                subst hn2
                exact ⟨a, c, rfl, (row_sl ho.row hn.symm).mono (fun _ _ _ => trivial), hk⟩)
              have HSEND : Hd (∀ Y a c, RelW U N fts p Y (r9.put n (passS s i)) → Sl (fun _ => True) Y (.slice a ol c) (u8s (offL (U i))) → Calls Tryd.prog 35 #[.pointer (some ⟨p, 0, none⟩), .int .i64 (T : Nat), .int .i64 (n : Nat), .int .i64 ((n : Int) + 1), .slice a ol c] Y fun e w' => e = .returned (.tuple #[]) ∧ ∃ r', NodeG (ksOf fts) T n r9 r' ∧ RelW U N fts p w' r' ∧ pot r'.fl + r'.cn ≤ pot r9.fl + r9.cn + 9 ∧ Keeps (fun b => b = p) Y w') := hid (fun Y a c hY hsl => by
                have h := offer_sent HU.out HF.out hl2 hiN hT hY (by omega) a c (by rw [hol]; exact hsl) HS.out hnx
                rw [hol] at h
                exact h)
              clear hol HXL HUG HUO HUA HUS
              go_upto_region 18 with fail
              generalize hW : World.alloc w7 _ = W8
              have KS : Hd (Keeps (fun _ => False) w7 W8) := hid (by rw [← hW]; exact (Keeps.alloc (Keeps.refl (fun _ => False) w7) _))
              have BX : Hd (Blk W8 w7.heap.size #[(.int .i64 (i : Int)), (.int .i64 0), (.int .i64 0), (.int .i64 ug), (.int .i64 uo), (.int .i64 ua), (.int .u32 (us : Int)), (.slice ad xl cd)] 59) := hid (by rw [← hW]; exact (blk_new _ _ _))
              have HK : Hd (Keeps (fun _ => False) w7 W8) := hid KS.out
              have z_W8 : w7.heap.size + 1 ≤ W8.heap.size := by rw [← hW]; simp
              clear hW KS
              have HK8 := hid (HK7.out.trans HK.out)
              have HSL8 := hid (HSL.out.keep HK.out (fun _ _ _ h => h))
              have lbX : p < w7.heap.size := by have := HK7.out.size; omega
              clear HK HSL
              have HPS8 : Hd (∀ Y, Keeps (fun _ => False) W8 Y → Calls Tryd.prog 34 #[.agg #[.int .i64 10000, .slice a1 n1 cc1, .slice a2 n2 cc2, .slice a3 n3 cc3], .int .i64 (i : Int)] Y fun e w' => ∃ b1 m1 d1 b2 m2 d2 b3 m3 d3, e = .returned (.tuple #[.agg #[.int .i64 10000, .slice b1 m1 d1, .slice b2 m2 d2, .slice b3 m3 d3], .int .i64 0]) ∧ Keeps (fun _ => False) Y w' ∧ StK U N (fun b => Y.heap.size ≤ b) w' (passS s i) (.slice b1 m1 d1) (.slice b2 m2 d2) (.slice b3 m3 d3)) := hid (fun Y hY => HPS.out Y (HK8.out.trans hY))
              clear HPS
              obtain ⟨bX, hbX⟩ : ∃ b, w7.heap.size = b := ⟨_, rfl⟩
              rw [hbX] at BX lbX ⊢
              clear hbX
              have lX := blk_lt BX.out
              refine Mm.wp_many (C := Mm.mkMC [8] [(8, [8]), (9, [8]), (10, [8]), (11, [8]), (13, [8]), (14, [8])] [(12, 44, #[(.int .i64 0), (.slice none 0 0), (.slice none 0 0), (.slice none 0 0)])] [(13, 12, 10)] [(fun r => .pointer (some ⟨p, 0, none⟩)), (fun r => .int .i64 (n : Nat)), (fun r => .pointer (some ⟨p, 0, none⟩)), (fun r => .pointer (some ⟨p, 0, none⟩)), (fun r => .pointer (some ⟨p, n * 4, none⟩)), (fun r => .agg #[.int .i64 10000, .slice a1 n1 cc1, .slice a2 n2 cc2, .slice a3 n3 cc3]), (fun r => .pointer (some ⟨bX, 0, none⟩)), (fun r => .int .i64 (i : Int)), (fun r => r 8), (fun r => r 8), (fun r => Mm.tupAt (r 8) 0), (fun r => Mm.tupAt (r 8) 1), (fun _ => undef), (fun _ => undef), (fun r => Mm.tupAt (r 8) 1)] (fun _ r => aggCells (Mm.tupAt (r 8) 0)) ((fun (_ : Nat) (K : Nat → Prop) (v : Value) (wx : World) => PasR U N (fun b => K b ∧ W8.heap.size ≤ b) (passS s i) v wx))) (by kernel_rfl) ?H ?HV ?HC ?HE
              case H =>
                refine { back := by kernel_rfl, dst := uniqB_spec (by kernel_rfl), szd := underB_spec (by kernel_rfl), val := Mm.valB_spec3 (f := Mm.mkV [(12, 44, #[(.int .i64 0), (.slice none 0 0), (.slice none 0 0), (.slice none 0 0)])] [(13, 12, 10)]) (by kernel_rfl), alo := ?_, sto := ?_, stc := ?_, all := Mm.allB3_spec (f := Mm.mkV [(12, 44, #[(.int .i64 0), (.slice none 0 0), (.slice none 0 0), (.slice none 0 0)])] [(13, 12, 10)]) (g := Mm.mkA [(12, 44, #[(.int .i64 0), (.slice none 0 0), (.slice none 0 0), (.slice none 0 0)])]) (h := Mm.mkS [(13, 12, 10)]) (by kernel_rfl), nva := ?_, nvs := ?_, one := ?_, civ := ?_, nd := ?_, ndc := ?_, pc := Mm.pcB_spec (by kernel_rfl), dd := Mm.ddB_spec (by kernel_rfl), sem := oneSem 44 #[(.int .i64 0), (.slice none 0 0), (.slice none 0 0), (.slice none 0 0)] _ _ 12 13 10 8 _ _ (fun v => Mm.tupAt v 0) rfl rfl (fun w => by go_simp) pasR_k pasR_m (fun K r w h b cs hb hz => by obtain ⟨b1, m1, d1, b2, m2, d2, b3, m3, d3, rfl, -⟩ := h; obtain ⟨w', e1, e2, e3⟩ := st_store hb hz 10000 b1 b2 b3 m1 m2 m3 d1 d2 d3; exact ⟨w', e1, e2, e3, rfl⟩) }
                · intro j o h0 ha
                  have h1 : 12 = j := by simpa [Mm.mkMC] using ha
                  subst h1
                  all_goals
                    have h2 := h0
                    simp only [List.getElem?_cons_succ, List.getElem?_cons_zero, Option.some.injEq] at h2
                    subst h2
                    exact ⟨⟨_, rfl⟩, rfl, rfl⟩
                · intro s o h0 ha
                  have h1 : 13 = s := by simpa [Mm.mkMC] using ha
                  subst h1
                  all_goals
                    have h2 := h0
                    simp only [List.getElem?_cons_succ, List.getElem?_cons_zero, Option.some.injEq] at h2
                    subst h2
                    exact ⟨_, _, _, _, rfl, rfl, rfl, rfl, rfl, rfl, rfl, waitsB_spec (by kernel_rfl), waitsB_spec (by kernel_rfl)⟩
                · intro s ha
                  have h1 : 13 = s := by simpa [Mm.mkMC] using ha
                  subst h1
                  all_goals exact ⟨rfl, rfl⟩
                · intro s ha
                  have h1 : 12 = s := by simpa [Mm.mkMC] using ha
                  subst h1
                  all_goals exact ⟨rfl, rfl, fun c => by simp [Mm.mkMC]⟩
                · intro s ha
                  have h1 : 13 = s := by simpa [Mm.mkMC] using ha
                  subst h1
                  all_goals exact ⟨rfl, rfl⟩
                · intro s t ha hb hst
                  have h1 : 13 = s := by simpa [Mm.mkMC] using ha
                  subst h1
                  all_goals (have h2 : 13 = t := by simpa [Mm.mkMC] using hb)
                  exact h2
                · intro c hc
                  have h1 : c = 8 := by simpa [Mm.mkMC] using hc
                  subst h1
                  all_goals exact ⟨rfl, rfl, fun _ => rfl⟩
                · intro i r r' hv hD
                  match i, hD with
                  | 0, _ => rfl
                  | 1, _ => rfl
                  | 2, _ => rfl
                  | 3, _ => rfl
                  | 4, _ => rfl
                  | 5, _ => rfl
                  | 6, _ => rfl
                  | 7, _ => rfl
                  | 8, hD => exact (show (r 8 : Value) = r' 8 by rw [hD 8 rfl])
                  | 9, hD => exact (show (r 8 : Value) = r' 8 by rw [hD 8 rfl])
                  | 10, hD => exact (show (Mm.tupAt (r 8) 0 : Value) = Mm.tupAt (r' 8) 0 by rw [hD 8 rfl])
                  | 11, hD => exact (show (Mm.tupAt (r 8) 1 : Value) = Mm.tupAt (r' 8) 1 by rw [hD 8 rfl])
                  | 12, _ => rfl
                  | 13, _ => rfl
                  | 14, hD => exact (show (Mm.tupAt (r 8) 1 : Value) = Mm.tupAt (r' 8) 1 by rw [hD 8 rfl])
                  | n + 15, _ => rfl
                · intro s r r' ha hD
                  have h1 : 13 = s := by simpa [Mm.mkMC] using ha
                  subst h1
                  · show ((fun _ r => aggCells (Mm.tupAt (r 8) 0)) : Nat → (Nat → Value) → Array Value) 13 r = ((fun _ r => aggCells (Mm.tupAt (r 8) 0)) : Nat → (Nat → Value) → Array Value) 13 r'
                    simp only [hD 8 rfl]
              case HV =>
                intro iq o hv hnc hi actq w' r hk hd hR
                match iq, hv, hnc, hi, hR with
                | 0, _, _, hi, hR =>
                  have hi1 := hi
                  simp only [List.getElem?_cons_succ, List.getElem?_cons_zero, Option.some.injEq] at hi1
                  subst hi1
                  have e0 : actq.eval (.tmp 0) = .pointer (some ⟨p, 0, none⟩) := (hd.out (by kernel_rfl)).trans rfl
                  exact wpOp_ranL hi rfl (v := .pointer (some ⟨p, 0, none⟩)) (w' := w') (by simp only [execOp, e0]; rfl) ⟨rfl, Keeps.refl _ _⟩
                | 1, _, _, hi, hR =>
                  have hi1 := hi
                  simp only [List.getElem?_cons_succ, List.getElem?_cons_zero, Option.some.injEq] at hi1
                  subst hi1
                  have e0 : actq.eval (.tmp 9) = .int .i64 (n : Nat) := (hd.out (by kernel_rfl)).trans rfl
                  exact wpOp_ranL hi rfl (v := .int .i64 (n : Nat)) (w' := w') (by simp only [execOp, e0]; rfl) ⟨rfl, Keeps.refl _ _⟩
                | 2, _, _, hi, hR =>
                  have hi1 := hi
                  simp only [List.getElem?_cons_succ, List.getElem?_cons_zero, Option.some.injEq] at hi1
                  subst hi1
                  have e0 : actq.eval (.tmp 85) = .pointer (some ⟨p, 0, none⟩) := hd.val (j := 0) (by kernel_rfl) rfl rfl rfl
                  exact wpOp_ranL hi rfl (v := .pointer (some ⟨p, 0, none⟩)) (w' := w') (by simp only [execOp, e0]; rfl) ⟨rfl, Keeps.refl _ _⟩
                | 3, _, _, hi, hR =>
                  have hi1 := hi
                  simp only [List.getElem?_cons_succ, List.getElem?_cons_zero, Option.some.injEq] at hi1
                  subst hi1
                  have e0 : actq.eval (.tmp 87) = .pointer (some ⟨p, 0, none⟩) := hd.val (j := 2) (by kernel_rfl) rfl rfl rfl
                  exact wpOp_ranL hi rfl (v := .pointer (some ⟨p, 0, none⟩)) (w' := w') (by simp only [execOp, e0]; go_simp) ⟨rfl, Keeps.refl _ _⟩
                | 4, _, _, hi, hR =>
                  have hi1 := hi
                  simp only [List.getElem?_cons_succ, List.getElem?_cons_zero, Option.some.injEq] at hi1
                  subst hi1
                  have e0 : actq.eval (.tmp 88) = .pointer (some ⟨p, 0, none⟩) := hd.val (j := 3) (by kernel_rfl) rfl rfl rfl
                  have e1 : actq.eval (.tmp 86) = .int .i64 (n : Nat) := hd.val (j := 1) (by kernel_rfl) rfl rfl rfl
                  exact wpOp_ranL hi rfl (v := .pointer (some ⟨p, n * 4, none⟩)) (w' := w') (by simp only [execOp, e0, e1]; go_simp) ⟨rfl, Keeps.refl _ _⟩
                | 5, _, _, hi, hR =>
                  have hi1 := hi
                  simp only [List.getElem?_cons_succ, List.getElem?_cons_zero, Option.some.injEq] at hi1
                  subst hi1
                  have e0 : actq.eval (.tmp 89) = .pointer (some ⟨p, n * 4, none⟩) := hd.val (j := 4) (by kernel_rfl) rfl rfl rfl
                  have c0 := keep_cell (HK8.out.trans hk) (fun h => h) HOC.out.1
                  have c1 := keep_cell (HK8.out.trans hk) (fun h => h) HOC.out.2.1
                  have c2 := keep_cell (HK8.out.trans hk) (fun h => h) HOC.out.2.2.1
                  have c3 := keep_cell (HK8.out.trans hk) (fun h => h) HOC.out.2.2.2
                  exact wpOp_ranL hi rfl (v := .agg #[.int .i64 10000, .slice a1 n1 cc1, .slice a2 n2 cc2, .slice a3 n3 cc3]) (w' := w') (by simp only [execOp, e0]; go_simp) ⟨rfl, Keeps.refl _ _⟩
                | 6, _, _, hi, hR =>
                  have hi1 := hi
                  simp only [List.getElem?_cons_succ, List.getElem?_cons_zero, Option.some.injEq] at hi1
                  subst hi1
                  have e0 : actq.eval (.tmp 10) = .pointer (some ⟨bX, 0, none⟩) := (hd.out (by kernel_rfl)).trans rfl
                  exact wpOp_ranL hi rfl (v := .pointer (some ⟨bX, 0, none⟩)) (w' := w') (by simp only [execOp, e0]; go_simp) ⟨rfl, Keeps.refl _ _⟩
                | 7, _, _, hi, hR =>
                  have hi1 := hi
                  simp only [List.getElem?_cons_succ, List.getElem?_cons_zero, Option.some.injEq] at hi1
                  subst hi1
                  have e0 : actq.eval (.tmp 91) = .pointer (some ⟨bX, 0, none⟩) := hd.val (j := 6) (by kernel_rfl) rfl rfl rfl
                  have c0 := blk_cell (blk_keep BX.out hk (fun h => h)) 0
                  exact wpOp_ranL hi rfl (v := .int .i64 (i : Int)) (w' := w') (by simp only [execOp, e0]; go_simp) ⟨rfl, Keeps.refl _ _⟩
                | 8, _, hnc, _, _ => cases hnc
                | 9, _, _, hi, hR =>
                  have hi1 := hi
                  simp only [List.getElem?_cons_succ, List.getElem?_cons_zero, Option.some.injEq] at hi1
                  subst hi1
                  have e0 : actq.eval (.tmp 93) = r 8 := hd.val (j := 8) (by kernel_rfl) rfl rfl rfl
                  exact wpOp_ranL hi rfl (v := r 8) (w' := w') (by simp only [execOp, e0]; rfl) ⟨rfl, Keeps.refl _ _⟩
                | 10, _, _, hi, hR =>
                  have hi1 := hi
                  simp only [List.getElem?_cons_succ, List.getElem?_cons_zero, Option.some.injEq] at hi1
                  subst hi1
                  have e0 : actq.eval (.tmp 84) = r 8 := hd.val (j := 9) (by kernel_rfl) rfl rfl rfl
                  obtain ⟨K8, hR8⟩ := hR 8 rfl
                  obtain ⟨b1, m1, d1, b2, m2, d2, b3, m3, d3, hrv, -⟩ := hR8
                  rw [hrv] at e0
                  exact wpOp_ranL hi rfl (v := .agg #[.int .i64 10000, .slice b1 m1 d1, .slice b2 m2 d2, .slice b3 m3 d3]) (w' := w') (by simp only [execOp, e0]; rfl) ⟨congrArg (actq.put (some 94)) (show (.agg #[.int .i64 10000, .slice b1 m1 d1, .slice b2 m2 d2, .slice b3 m3 d3] : Value) = Mm.tupAt (r 8) 0 from by rw [hrv]; rfl), Keeps.refl _ _⟩
                | 11, _, _, hi, hR =>
                  have hi1 := hi
                  simp only [List.getElem?_cons_succ, List.getElem?_cons_zero, Option.some.injEq] at hi1
                  subst hi1
                  have e0 : actq.eval (.tmp 84) = r 8 := hd.val (j := 9) (by kernel_rfl) rfl rfl rfl
                  obtain ⟨K8, hR8⟩ := hR 8 rfl
                  obtain ⟨b1, m1, d1, b2, m2, d2, b3, m3, d3, hrv, -⟩ := hR8
                  rw [hrv] at e0
                  exact wpOp_ranL hi rfl (v := .int .i64 0) (w' := w') (by simp only [execOp, e0]; rfl) ⟨congrArg (actq.put (some 95)) (show (.int .i64 0 : Value) = Mm.tupAt (r 8) 1 from by rw [hrv]; rfl), Keeps.refl _ _⟩
                | 12, hv, _, _, _ => cases hv
                | 13, hv, _, _, _ => cases hv
                | 14, _, _, hi, hR =>
                  have hi1 := hi
                  simp only [List.getElem?_cons_succ, List.getElem?_cons_zero, Option.some.injEq] at hi1
                  subst hi1
                  have e0 : actq.eval (.tmp 95) = Mm.tupAt (r 8) 1 := hd.val (j := 11) (by kernel_rfl) rfl rfl rfl
                  exact wpOp_ranL hi rfl (v := Mm.tupAt (r 8) 1) (w' := w') (by simp only [execOp, e0]; rfl) ⟨rfl, Keeps.refl _ _⟩
                | n + 15, _, _, hi, _ => simp at hi
              case HC =>
                intro c o hc hi actq w' r hk hd hR
                have h1 : c = 8 := by simpa [Mm.mkMC] using hc
                subst h1
                · have hi1 := hi
                  simp only [List.getElem?_cons_succ, List.getElem?_cons_zero, Option.some.injEq] at hi1
                  subst hi1
                  have e0 : actq.eval (.tmp 90) = .agg #[.int .i64 10000, .slice a1 n1 cc1, .slice a2 n2 cc2, .slice a3 n3 cc3] := hd.val (j := 5) (by kernel_rfl) rfl rfl rfl
                  have e1 : actq.eval (.tmp 92) = .int .i64 (i : Int) := hd.val (j := 7) (by kernel_rfl) rfl rfl rfl
                  exact wpOp_callL hi rfl (f := 34) (args := #[.agg #[.int .i64 10000, .slice a1 n1 cc1, .slice a2 n2 cc2, .slice a3 n3 cc3], .int .i64 (i : Int)]) (by simp only [execOp_call_go, List.map_toArray, List.map_cons, List.map_nil, e0, e1]; rfl) ((HPS8.out w' hk).mono (fun e w2 ⟨b1, m1, d1, b2, m2, d2, b3, m3, d3, he, hk2, hst⟩ => ⟨_, he, _, rfl, hk2, ⟨b1, m1, d1, b2, m2, d2, b3, m3, d3, rfl, hst.mono (fun b _ h => ⟨.inr h, by have h1 := hk.size; omega⟩)⟩⟩))
              case HE =>
                intro L actq w' gg r hL hT
                have em := act_mix (bs := [true, true, true, true, true, true, true, true, true, true, true, true, false, false, true, true, true, true, true, true, true, true, true, true, true, true, true, true, true, true, true, true, true, true, true, true, true, true, true, true, true, true, true, true, true, true, true, true, true, true, true, true, true, true, true, true, true, true, true, true, true, true, true, true, true, true, true, true, true, true, true, true, true, true, true, true, true, true, true, true, true, true, true, true, false, false, false, false, false, false, false, false, false, false, false, false, true, true, true, true, true, true, true, true, true, true, true, true, true, true, true, true]) hT.sz hT.df hT.fr rfl (by kernel_rfl)
                have kW := hT.kp
                have hR8 := hT.c 8 rfl (hL 8 (by decide))
                obtain ⟨eA12, zA12, cs12, -, bA12, sA12⟩ := hT.al 12 rfl (hL 12 (by decide)) _ 12 rfl rfl
                have sA12 := sA12 13 rfl (hL 13 (by decide)) rfl
                subst sA12
                change actq.tmps.getD 12 undef = _ at eA12
                change Blk w' (gg 12) (aggCells (Mm.tupAt (r 8) 0)) 44 at bA12
                have k13 : actq.tmps.getD 13 undef = Mm.tupAt (r 8) 1 := hT.v 14 _ 13 rfl (hL 14 (by decide)) rfl rfl
                generalize hrv8 : r 8 = rv8 at *
                clear hrv8
                obtain ⟨b1, m1, d1, b2, m2, d2, b3, m3, d3, rfl, hst⟩ := hR8
                change actq.tmps.getD 13 undef = .int .i64 0 at k13
                generalize gg 12 = g12 at *
                clear hT hL
                simp only [mix, eA12, k13] at em
                clear eA12 k13
                generalize actq.tmps.getD 85 undef = q85 at em
                generalize actq.tmps.getD 86 undef = q86 at em
                generalize actq.tmps.getD 87 undef = q87 at em
                generalize actq.tmps.getD 88 undef = q88 at em
                generalize actq.tmps.getD 89 undef = q89 at em
                generalize actq.tmps.getD 90 undef = q90 at em
                generalize actq.tmps.getD 91 undef = q91 at em
                generalize actq.tmps.getD 92 undef = q92 at em
                generalize actq.tmps.getD 93 undef = q93 at em
                generalize actq.tmps.getD 84 undef = q84 at em
                generalize actq.tmps.getD 94 undef = q94 at em
                generalize actq.tmps.getD 95 undef = q95 at em
                subst em
                simp only [Exit.then]
                obtain ⟨W9, rfl⟩ : ∃ V, V = w' := ⟨_, rfl⟩
                change Blk W9 g12 #[.int .i64 10000, .slice b1 m1 d1, .slice b2 m2 d2, .slice b3 m3 d3] _ at bA12
                have HST9 : Hd (StK U N (fun b => b ≠ p) W9 (passS s i) (.slice b1 m1 d1) (.slice b2 m2 d2) (.slice b3 m3 d3)) := hid (hst.mono (fun b _ h => by have h2 := h.2; omega))
                have BX9 := hid (blk_keep BX.out kW (fun h => h))
                have RR := hid bA12
                have HK9 := hid (HK8.out.trans kW)
                have HSL9 := hid (HSL8.out.keep kW (fun _ _ _ h => h))
                have lRR := blk_lt bA12
                clear bA12 hst kW BX HSL8 HPS8
                go_upto_region 21 with fail
                have o_RR_0 : W9.cell? ⟨g12, 0, none⟩ = some ((.int .i64 10000)) := blk_cell RR.out 0
                have o_RR_1 : W9.cell? ⟨g12, 1, none⟩ = some ((.slice b1 m1 d1)) := blk_cell RR.out 1
                have o_RR_2 : W9.cell? ⟨g12, 2, none⟩ = some ((.slice b2 m2 d2)) := blk_cell RR.out 2
                have o_RR_3 : W9.cell? ⟨g12, 3, none⟩ = some ((.slice b3 m3 d3)) := blk_cell RR.out 3
                have pc0 := keep_cell HK9.out (fun h => h) HOC.out.1
                have pf0 := (HK9.out.frozen (p := ⟨p, n * 4, none⟩) lpW (fun h => h)).trans (HR10.out.free _)
                have pc1 := keep_cell HK9.out (fun h => h) HOC.out.2.1
                have pf1 := (HK9.out.frozen (p := ⟨p, n * 4 + 1, none⟩) lpW (fun h => h)).trans (HR10.out.free _)
                have pc2 := keep_cell HK9.out (fun h => h) HOC.out.2.2.1
                have pf2 := (HK9.out.frozen (p := ⟨p, n * 4 + 2, none⟩) lpW (fun h => h)).trans (HR10.out.free _)
                have pc3 := keep_cell HK9.out (fun h => h) HOC.out.2.2.2
                have pf3 := (HK9.out.frozen (p := ⟨p, n * 4 + 3, none⟩) lpW (fun h => h)).trans (HR10.out.free _)
                go_region
                go_upto_region 22 with fail
                clear pc0 pc1 pc2 pc3 pf0 pf1 pf2 pf3
                clear o_RR_0 o_RR_1 o_RR_2 o_RR_3
                generalize hW10 : World.drew (World.setCell (World.setCell (World.setCell (World.setCell W9 _ _) _ _) _ _) _ _) = W10
                have HR11 : Hd (RelW U N fts p W10 (r9.put n (passS s i))) := hid (by have h := HSET.out W9 (passS s i) _ _ _ HK9.out HST9.out.stv; rw [put_put r9 n (by omega)] at h; rw [← hW10]; exact h.keep (Keeps.drew (Keeps.refl _ _)))
                have ks : Keeps (fun b => b = p) W9 W10 := by rw [← hW10]; exact Keeps.drew (set4_keeps W9 p n (.slice b1 m1 d1) (.slice b2 m2 d2) (.slice b3 m3 d3))
                have HK11 : Hd (Keeps (fun b => b = p) W3 W10) := hid ((HK10.out.trans (keep_any HK9.out)).trans ks)
                have BX10 := hid (blk_keep BX9.out ks (fun h => by omega))
                have HSL10 := hid (HSL9.out.keep ks (fun _ _ h => h))
                clear hW10 ks BX9 HSL9 HK9 HST9 RR
                have hw1 : IntKind.i64.wrap ((n : Int) + 1) = (n : Int) + 1 := IntWalk.i64_in _ (by omega)
                have o_BX10_0 : W10.cell? ⟨bX, 0, none⟩ = some ((.int .i64 (i : Int))) := blk_cell BX10.out 0
                have o_BX10_1 : W10.cell? ⟨bX, 1, none⟩ = some ((.int .i64 0)) := blk_cell BX10.out 1
                have o_BX10_2 : W10.cell? ⟨bX, 2, none⟩ = some ((.int .i64 0)) := blk_cell BX10.out 2
                have o_BX10_3 : W10.cell? ⟨bX, 3, none⟩ = some ((.int .i64 ug)) := blk_cell BX10.out 3
                have o_BX10_4 : W10.cell? ⟨bX, 4, none⟩ = some ((.int .i64 uo)) := blk_cell BX10.out 4
                have o_BX10_5 : W10.cell? ⟨bX, 5, none⟩ = some ((.int .i64 ua)) := blk_cell BX10.out 5
                have o_BX10_6 : W10.cell? ⟨bX, 6, none⟩ = some ((.int .u32 (us : Int))) := blk_cell BX10.out 6
                have o_BX10_7 : W10.cell? ⟨bX, 7, none⟩ = some ((.slice ad xl cd)) := blk_cell BX10.out 7
                go_wp2_with fail
                refine (HOFF.out _ HSL10.out).mono ?_
                rintro e W11 ⟨a9, c9, rfl, hsl9, hk11⟩
                have HSL11 := hid hsl9; have HK11b := hid hk11; have HR12 := hid (HR11.out.keep hk11)
                clear hsl9 hk11 HR11 HOFF HSL10 BX10
                clear o_BX10_0 o_BX10_1 o_BX10_2 o_BX10_3 o_BX10_4 o_BX10_5 o_BX10_6 o_BX10_7
                go_wp2_with fail
                refine (HSEND.out _ a9 c9 HR12.out HSL11.out).mono ?_
                rintro e W12 ⟨rfl, r', hn1, hr1, hp1, hk12⟩
                have HN13 := hid (HNX.out _ r' hn1 hr1 hp1)
                have HK13 := hid ((HK11.out.trans (keep_any HK11b.out)).trans hk12)
                clear hn1 hr1 hp1 hk12 HSEND HSL11 HR12 HK11 HK11b
                go_wp2
                go_roundw
                case rel => exact ⟨n + 1, by go_num, by omega, HN13, HK13⟩
                case measure => simp [intOf]; omega
          · have hrem : ((T : Int).tmod 7 == 0) = false := by rw [Int.tmod_eq_emod_of_nonneg (by omega)]; simp; omega
            obtain ⟨s, hs⟩ : ∃ s, r9.s n = s := ⟨_, rfl⟩
            have HS : Hd (s = (if T % 7 = 0 then retryS (r9.s n) else r9.s n)) := hid (by rw [if_neg h7, hs])
            have HR10 : Hd (RelW U N fts p X (r9.put n s)) := hid (by rw [← hs, put_self r9 n (by omega)]; exact HR9.out)
            have HI10 : Hd (TInvR N (r9.put n s)) := hid (by rw [← hs, put_self r9 n (by omega)]; exact HI9.out)
            have HK10 := HKX
            clear hs
            obtain ⟨a1, n1, cc1, a2, n2, cc2, a3, n3, cc3, o0, o1, o2, o3, hrt, hof0, hofi, hset⟩ := RelW.node HU.out HR10.out HI10.out (k := n) (by omega)
            rw [put_s r9 n (by omega)] at hof0 hofi
            clear hrt
            have HSET := hid hset
            clear hset
            have HOC := hid (And.intro o0 (And.intro o1 (And.intro o2 o3)))
            have fr := HR10.out.free
            have lpW := HR10.out.lt
            cases hnx : nextS s with
            | none =>
              have HOF := hid (hof0 hnx)
              clear hof0 hofi
              go_wp2_with fail
              refine (HOF.out _ (Keeps.refl _ _)).mono ?_
              unfold offZ
              rintro e w7 ⟨rfl, hk7⟩
              have HK7 := hid hk7
              clear hk7 HOF o0 o1 o2 o3 fr
              go_wp2
              go_roundw
              case rel =>
                refine ⟨n + 1, by go_num, by omega, hid (HNX.out _ (r9.put n s) ⟨s, HS.out, .inl ⟨hnx, rfl⟩⟩ (HR10.out.keep (by first | exact HK7.out.alloc _ | exact HK7.out)) (by obtain ⟨e1, e2⟩ := put_fl r9 n s; rw [e1, e2]; omega)), hid (HK10.out.trans (keep_any (by first | exact HK7.out.alloc _ | exact HK7.out)))⟩
              case measure => simp [intOf]; omega
            | some i =>
              obtain ⟨hiN, hof, hps⟩ := hofi i hnx
              have HOF := hid hof; have HPS := hid hps
              clear hof hps hof0 hofi
              obtain ⟨xl, hxl⟩ : ∃ n, (U i).d.length = n := ⟨_, rfl⟩
              have HXL := hid hxl
              rw [hxl] at HOF
              clear hxl
              obtain ⟨ug, hug⟩ : ∃ g, (U i).g = g := ⟨_, rfl⟩
              obtain ⟨uo, huo⟩ : ∃ g, (U i).o = g := ⟨_, rfl⟩
              obtain ⟨ua, hua⟩ : ∃ g, (U i).a = g := ⟨_, rfl⟩
              obtain ⟨us, hus⟩ : ∃ g, (U i).s = g := ⟨_, rfl⟩
              have HUG := hid hug; have HUO := hid huo; have HUA := hid hua; have HUS := hid hus
              rw [hug, huo, hua, hus] at HOF
              clear hug huo hua hus
              obtain ⟨ol, hol⟩ : ∃ n, (offL (U i)).length = n := ⟨_, rfl⟩
              skip
              go_wp2_with fail
              refine (HOF.out _ (Keeps.refl _ _)).mono ?_
              rintro e w7 ⟨ad, cd, rfl, hsl, hk7⟩
              have HSL := hid hsl; have HK7 := hid hk7
              clear hsl hk7 HOF o0 o1 o2 o3 fr
              have HOFF : Hd (∀ Y, Sl (fun b => b ≠ p) Y (.slice ad xl cd) (u8s (U i).d) → Calls Tryd.prog 36 #[.agg #[.int .i64 (i : Int), .int .i64 0, .int .i64 0, .int .i64 ug, .int .i64 uo, .int .i64 ua, .int .u32 (us : Int), .slice ad xl cd]] Y fun e w' => ∃ a c, e = .returned (.slice a ol c) ∧ Sl (fun _ => True) w' (.slice a ol c) (u8s (offL (U i))) ∧ Keeps (fun _ => False) Y w') := hid (fun Y hY => by
                have h := offering_any (U i) (fun b => b ≠ p) ad cd Y (by rw [HXL.out]; exact hY) (HU.out.ok i hiN)
                rw [HXL.out, HUG.out, HUO.out, HUA.out, HUS.out, HU.out.id, HU.out.zf, HU.out.zt] at h
                refine h.mono ?_
                rintro e w' ⟨a, n, c, rfl, hn, ho, hk⟩
                have hn2 : n = ol := by rw [hn, u8s_length, hol]
                subst hn2
                exact ⟨a, c, rfl, (row_sl ho.row hn.symm).mono (fun _ _ _ => trivial), hk⟩)
              have HSEND : Hd (∀ Y a c, RelW U N fts p Y (r9.put n (passS s i)) → Sl (fun _ => True) Y (.slice a ol c) (u8s (offL (U i))) → Calls Tryd.prog 35 #[.pointer (some ⟨p, 0, none⟩), .int .i64 (T : Nat), .int .i64 (n : Nat), .int .i64 ((n : Int) + 1), .slice a ol c] Y fun e w' => e = .returned (.tuple #[]) ∧ ∃ r', NodeG (ksOf fts) T n r9 r' ∧ RelW U N fts p w' r' ∧ pot r'.fl + r'.cn ≤ pot r9.fl + r9.cn + 9 ∧ Keeps (fun b => b = p) Y w') := hid (fun Y a c hY hsl => by
                have h := offer_sent HU.out HF.out hl2 hiN hT hY (by omega) a c (by rw [hol]; exact hsl) HS.out hnx
                rw [hol] at h
                exact h)
              clear hol HXL HUG HUO HUA HUS
              go_upto_region 18 with fail
              generalize hW : World.alloc w7 _ = W8
              have KS : Hd (Keeps (fun _ => False) w7 W8) := hid (by rw [← hW]; exact (Keeps.alloc (Keeps.refl (fun _ => False) w7) _))
              have BX : Hd (Blk W8 w7.heap.size #[(.int .i64 (i : Int)), (.int .i64 0), (.int .i64 0), (.int .i64 ug), (.int .i64 uo), (.int .i64 ua), (.int .u32 (us : Int)), (.slice ad xl cd)] 59) := hid (by rw [← hW]; exact (blk_new _ _ _))
              have HK : Hd (Keeps (fun _ => False) w7 W8) := hid KS.out
              have z_W8 : w7.heap.size + 1 ≤ W8.heap.size := by rw [← hW]; simp
              clear hW KS
              have HK8 := hid (HK7.out.trans HK.out)
              have HSL8 := hid (HSL.out.keep HK.out (fun _ _ _ h => h))
              have lbX : p < w7.heap.size := by have := HK7.out.size; omega
              clear HK HSL
              have HPS8 : Hd (∀ Y, Keeps (fun _ => False) W8 Y → Calls Tryd.prog 34 #[.agg #[.int .i64 10000, .slice a1 n1 cc1, .slice a2 n2 cc2, .slice a3 n3 cc3], .int .i64 (i : Int)] Y fun e w' => ∃ b1 m1 d1 b2 m2 d2 b3 m3 d3, e = .returned (.tuple #[.agg #[.int .i64 10000, .slice b1 m1 d1, .slice b2 m2 d2, .slice b3 m3 d3], .int .i64 0]) ∧ Keeps (fun _ => False) Y w' ∧ StK U N (fun b => Y.heap.size ≤ b) w' (passS s i) (.slice b1 m1 d1) (.slice b2 m2 d2) (.slice b3 m3 d3)) := hid (fun Y hY => HPS.out Y (HK8.out.trans hY))
              clear HPS
              obtain ⟨bX, hbX⟩ : ∃ b, w7.heap.size = b := ⟨_, rfl⟩
              rw [hbX] at BX lbX ⊢
              clear hbX
              have lX := blk_lt BX.out
              refine Mm.wp_many (C := Mm.mkMC [8] [(8, [8]), (9, [8]), (10, [8]), (11, [8]), (13, [8]), (14, [8])] [(12, 44, #[(.int .i64 0), (.slice none 0 0), (.slice none 0 0), (.slice none 0 0)])] [(13, 12, 10)] [(fun r => .pointer (some ⟨p, 0, none⟩)), (fun r => .int .i64 (n : Nat)), (fun r => .pointer (some ⟨p, 0, none⟩)), (fun r => .pointer (some ⟨p, 0, none⟩)), (fun r => .pointer (some ⟨p, n * 4, none⟩)), (fun r => .agg #[.int .i64 10000, .slice a1 n1 cc1, .slice a2 n2 cc2, .slice a3 n3 cc3]), (fun r => .pointer (some ⟨bX, 0, none⟩)), (fun r => .int .i64 (i : Int)), (fun r => r 8), (fun r => r 8), (fun r => Mm.tupAt (r 8) 0), (fun r => Mm.tupAt (r 8) 1), (fun _ => undef), (fun _ => undef), (fun r => Mm.tupAt (r 8) 1)] (fun _ r => aggCells (Mm.tupAt (r 8) 0)) ((fun (_ : Nat) (K : Nat → Prop) (v : Value) (wx : World) => PasR U N (fun b => K b ∧ W8.heap.size ≤ b) (passS s i) v wx))) (by kernel_rfl) ?H ?HV ?HC ?HE
              case H =>
                refine { back := by kernel_rfl, dst := uniqB_spec (by kernel_rfl), szd := underB_spec (by kernel_rfl), val := Mm.valB_spec3 (f := Mm.mkV [(12, 44, #[(.int .i64 0), (.slice none 0 0), (.slice none 0 0), (.slice none 0 0)])] [(13, 12, 10)]) (by kernel_rfl), alo := ?_, sto := ?_, stc := ?_, all := Mm.allB3_spec (f := Mm.mkV [(12, 44, #[(.int .i64 0), (.slice none 0 0), (.slice none 0 0), (.slice none 0 0)])] [(13, 12, 10)]) (g := Mm.mkA [(12, 44, #[(.int .i64 0), (.slice none 0 0), (.slice none 0 0), (.slice none 0 0)])]) (h := Mm.mkS [(13, 12, 10)]) (by kernel_rfl), nva := ?_, nvs := ?_, one := ?_, civ := ?_, nd := ?_, ndc := ?_, pc := Mm.pcB_spec (by kernel_rfl), dd := Mm.ddB_spec (by kernel_rfl), sem := oneSem 44 #[(.int .i64 0), (.slice none 0 0), (.slice none 0 0), (.slice none 0 0)] _ _ 12 13 10 8 _ _ (fun v => Mm.tupAt v 0) rfl rfl (fun w => by go_simp) pasR_k pasR_m (fun K r w h b cs hb hz => by obtain ⟨b1, m1, d1, b2, m2, d2, b3, m3, d3, rfl, -⟩ := h; obtain ⟨w', e1, e2, e3⟩ := st_store hb hz 10000 b1 b2 b3 m1 m2 m3 d1 d2 d3; exact ⟨w', e1, e2, e3, rfl⟩) }
                · intro j o h0 ha
                  have h1 : 12 = j := by simpa [Mm.mkMC] using ha
                  subst h1
                  all_goals
                    have h2 := h0
                    simp only [List.getElem?_cons_succ, List.getElem?_cons_zero, Option.some.injEq] at h2
                    subst h2
                    exact ⟨⟨_, rfl⟩, rfl, rfl⟩
                · intro s o h0 ha
                  have h1 : 13 = s := by simpa [Mm.mkMC] using ha
                  subst h1
                  all_goals
                    have h2 := h0
                    simp only [List.getElem?_cons_succ, List.getElem?_cons_zero, Option.some.injEq] at h2
                    subst h2
                    exact ⟨_, _, _, _, rfl, rfl, rfl, rfl, rfl, rfl, rfl, waitsB_spec (by kernel_rfl), waitsB_spec (by kernel_rfl)⟩
                · intro s ha
                  have h1 : 13 = s := by simpa [Mm.mkMC] using ha
                  subst h1
                  all_goals exact ⟨rfl, rfl⟩
                · intro s ha
                  have h1 : 12 = s := by simpa [Mm.mkMC] using ha
                  subst h1
                  all_goals exact ⟨rfl, rfl, fun c => by simp [Mm.mkMC]⟩
                · intro s ha
                  have h1 : 13 = s := by simpa [Mm.mkMC] using ha
                  subst h1
                  all_goals exact ⟨rfl, rfl⟩
                · intro s t ha hb hst
                  have h1 : 13 = s := by simpa [Mm.mkMC] using ha
                  subst h1
                  all_goals (have h2 : 13 = t := by simpa [Mm.mkMC] using hb)
                  exact h2
                · intro c hc
                  have h1 : c = 8 := by simpa [Mm.mkMC] using hc
                  subst h1
                  all_goals exact ⟨rfl, rfl, fun _ => rfl⟩
                · intro i r r' hv hD
                  match i, hD with
                  | 0, _ => rfl
                  | 1, _ => rfl
                  | 2, _ => rfl
                  | 3, _ => rfl
                  | 4, _ => rfl
                  | 5, _ => rfl
                  | 6, _ => rfl
                  | 7, _ => rfl
                  | 8, hD => exact (show (r 8 : Value) = r' 8 by rw [hD 8 rfl])
                  | 9, hD => exact (show (r 8 : Value) = r' 8 by rw [hD 8 rfl])
                  | 10, hD => exact (show (Mm.tupAt (r 8) 0 : Value) = Mm.tupAt (r' 8) 0 by rw [hD 8 rfl])
                  | 11, hD => exact (show (Mm.tupAt (r 8) 1 : Value) = Mm.tupAt (r' 8) 1 by rw [hD 8 rfl])
                  | 12, _ => rfl
                  | 13, _ => rfl
                  | 14, hD => exact (show (Mm.tupAt (r 8) 1 : Value) = Mm.tupAt (r' 8) 1 by rw [hD 8 rfl])
                  | n + 15, _ => rfl
                · intro s r r' ha hD
                  have h1 : 13 = s := by simpa [Mm.mkMC] using ha
                  subst h1
                  · show ((fun _ r => aggCells (Mm.tupAt (r 8) 0)) : Nat → (Nat → Value) → Array Value) 13 r = ((fun _ r => aggCells (Mm.tupAt (r 8) 0)) : Nat → (Nat → Value) → Array Value) 13 r'
                    simp only [hD 8 rfl]
              case HV =>
                intro iq o hv hnc hi actq w' r hk hd hR
                match iq, hv, hnc, hi, hR with
                | 0, _, _, hi, hR =>
                  have hi1 := hi
                  simp only [List.getElem?_cons_succ, List.getElem?_cons_zero, Option.some.injEq] at hi1
                  subst hi1
                  have e0 : actq.eval (.tmp 0) = .pointer (some ⟨p, 0, none⟩) := (hd.out (by kernel_rfl)).trans rfl
                  exact wpOp_ranL hi rfl (v := .pointer (some ⟨p, 0, none⟩)) (w' := w') (by simp only [execOp, e0]; rfl) ⟨rfl, Keeps.refl _ _⟩
                | 1, _, _, hi, hR =>
                  have hi1 := hi
                  simp only [List.getElem?_cons_succ, List.getElem?_cons_zero, Option.some.injEq] at hi1
                  subst hi1
                  have e0 : actq.eval (.tmp 9) = .int .i64 (n : Nat) := (hd.out (by kernel_rfl)).trans rfl
                  exact wpOp_ranL hi rfl (v := .int .i64 (n : Nat)) (w' := w') (by simp only [execOp, e0]; rfl) ⟨rfl, Keeps.refl _ _⟩
                | 2, _, _, hi, hR =>
                  have hi1 := hi
                  simp only [List.getElem?_cons_succ, List.getElem?_cons_zero, Option.some.injEq] at hi1
                  subst hi1
                  have e0 : actq.eval (.tmp 85) = .pointer (some ⟨p, 0, none⟩) := hd.val (j := 0) (by kernel_rfl) rfl rfl rfl
                  exact wpOp_ranL hi rfl (v := .pointer (some ⟨p, 0, none⟩)) (w' := w') (by simp only [execOp, e0]; rfl) ⟨rfl, Keeps.refl _ _⟩
                | 3, _, _, hi, hR =>
                  have hi1 := hi
                  simp only [List.getElem?_cons_succ, List.getElem?_cons_zero, Option.some.injEq] at hi1
                  subst hi1
                  have e0 : actq.eval (.tmp 87) = .pointer (some ⟨p, 0, none⟩) := hd.val (j := 2) (by kernel_rfl) rfl rfl rfl
                  exact wpOp_ranL hi rfl (v := .pointer (some ⟨p, 0, none⟩)) (w' := w') (by simp only [execOp, e0]; go_simp) ⟨rfl, Keeps.refl _ _⟩
                | 4, _, _, hi, hR =>
                  have hi1 := hi
                  simp only [List.getElem?_cons_succ, List.getElem?_cons_zero, Option.some.injEq] at hi1
                  subst hi1
                  have e0 : actq.eval (.tmp 88) = .pointer (some ⟨p, 0, none⟩) := hd.val (j := 3) (by kernel_rfl) rfl rfl rfl
                  have e1 : actq.eval (.tmp 86) = .int .i64 (n : Nat) := hd.val (j := 1) (by kernel_rfl) rfl rfl rfl
                  exact wpOp_ranL hi rfl (v := .pointer (some ⟨p, n * 4, none⟩)) (w' := w') (by simp only [execOp, e0, e1]; go_simp) ⟨rfl, Keeps.refl _ _⟩
                | 5, _, _, hi, hR =>
                  have hi1 := hi
                  simp only [List.getElem?_cons_succ, List.getElem?_cons_zero, Option.some.injEq] at hi1
                  subst hi1
                  have e0 : actq.eval (.tmp 89) = .pointer (some ⟨p, n * 4, none⟩) := hd.val (j := 4) (by kernel_rfl) rfl rfl rfl
                  have c0 := keep_cell (HK8.out.trans hk) (fun h => h) HOC.out.1
                  have c1 := keep_cell (HK8.out.trans hk) (fun h => h) HOC.out.2.1
                  have c2 := keep_cell (HK8.out.trans hk) (fun h => h) HOC.out.2.2.1
                  have c3 := keep_cell (HK8.out.trans hk) (fun h => h) HOC.out.2.2.2
                  exact wpOp_ranL hi rfl (v := .agg #[.int .i64 10000, .slice a1 n1 cc1, .slice a2 n2 cc2, .slice a3 n3 cc3]) (w' := w') (by simp only [execOp, e0]; go_simp) ⟨rfl, Keeps.refl _ _⟩
                | 6, _, _, hi, hR =>
                  have hi1 := hi
                  simp only [List.getElem?_cons_succ, List.getElem?_cons_zero, Option.some.injEq] at hi1
                  subst hi1
                  have e0 : actq.eval (.tmp 10) = .pointer (some ⟨bX, 0, none⟩) := (hd.out (by kernel_rfl)).trans rfl
                  exact wpOp_ranL hi rfl (v := .pointer (some ⟨bX, 0, none⟩)) (w' := w') (by simp only [execOp, e0]; go_simp) ⟨rfl, Keeps.refl _ _⟩
                | 7, _, _, hi, hR =>
                  have hi1 := hi
                  simp only [List.getElem?_cons_succ, List.getElem?_cons_zero, Option.some.injEq] at hi1
                  subst hi1
                  have e0 : actq.eval (.tmp 91) = .pointer (some ⟨bX, 0, none⟩) := hd.val (j := 6) (by kernel_rfl) rfl rfl rfl
                  have c0 := blk_cell (blk_keep BX.out hk (fun h => h)) 0
                  exact wpOp_ranL hi rfl (v := .int .i64 (i : Int)) (w' := w') (by simp only [execOp, e0]; go_simp) ⟨rfl, Keeps.refl _ _⟩
                | 8, _, hnc, _, _ => cases hnc
                | 9, _, _, hi, hR =>
                  have hi1 := hi
                  simp only [List.getElem?_cons_succ, List.getElem?_cons_zero, Option.some.injEq] at hi1
                  subst hi1
                  have e0 : actq.eval (.tmp 93) = r 8 := hd.val (j := 8) (by kernel_rfl) rfl rfl rfl
                  exact wpOp_ranL hi rfl (v := r 8) (w' := w') (by simp only [execOp, e0]; rfl) ⟨rfl, Keeps.refl _ _⟩
                | 10, _, _, hi, hR =>
                  have hi1 := hi
                  simp only [List.getElem?_cons_succ, List.getElem?_cons_zero, Option.some.injEq] at hi1
                  subst hi1
                  have e0 : actq.eval (.tmp 84) = r 8 := hd.val (j := 9) (by kernel_rfl) rfl rfl rfl
                  obtain ⟨K8, hR8⟩ := hR 8 rfl
                  obtain ⟨b1, m1, d1, b2, m2, d2, b3, m3, d3, hrv, -⟩ := hR8
                  rw [hrv] at e0
                  exact wpOp_ranL hi rfl (v := .agg #[.int .i64 10000, .slice b1 m1 d1, .slice b2 m2 d2, .slice b3 m3 d3]) (w' := w') (by simp only [execOp, e0]; rfl) ⟨congrArg (actq.put (some 94)) (show (.agg #[.int .i64 10000, .slice b1 m1 d1, .slice b2 m2 d2, .slice b3 m3 d3] : Value) = Mm.tupAt (r 8) 0 from by rw [hrv]; rfl), Keeps.refl _ _⟩
                | 11, _, _, hi, hR =>
                  have hi1 := hi
                  simp only [List.getElem?_cons_succ, List.getElem?_cons_zero, Option.some.injEq] at hi1
                  subst hi1
                  have e0 : actq.eval (.tmp 84) = r 8 := hd.val (j := 9) (by kernel_rfl) rfl rfl rfl
                  obtain ⟨K8, hR8⟩ := hR 8 rfl
                  obtain ⟨b1, m1, d1, b2, m2, d2, b3, m3, d3, hrv, -⟩ := hR8
                  rw [hrv] at e0
                  exact wpOp_ranL hi rfl (v := .int .i64 0) (w' := w') (by simp only [execOp, e0]; rfl) ⟨congrArg (actq.put (some 95)) (show (.int .i64 0 : Value) = Mm.tupAt (r 8) 1 from by rw [hrv]; rfl), Keeps.refl _ _⟩
                | 12, hv, _, _, _ => cases hv
                | 13, hv, _, _, _ => cases hv
                | 14, _, _, hi, hR =>
                  have hi1 := hi
                  simp only [List.getElem?_cons_succ, List.getElem?_cons_zero, Option.some.injEq] at hi1
                  subst hi1
                  have e0 : actq.eval (.tmp 95) = Mm.tupAt (r 8) 1 := hd.val (j := 11) (by kernel_rfl) rfl rfl rfl
                  exact wpOp_ranL hi rfl (v := Mm.tupAt (r 8) 1) (w' := w') (by simp only [execOp, e0]; rfl) ⟨rfl, Keeps.refl _ _⟩
                | n + 15, _, _, hi, _ => simp at hi
              case HC =>
                intro c o hc hi actq w' r hk hd hR
                have h1 : c = 8 := by simpa [Mm.mkMC] using hc
                subst h1
                · have hi1 := hi
                  simp only [List.getElem?_cons_succ, List.getElem?_cons_zero, Option.some.injEq] at hi1
                  subst hi1
                  have e0 : actq.eval (.tmp 90) = .agg #[.int .i64 10000, .slice a1 n1 cc1, .slice a2 n2 cc2, .slice a3 n3 cc3] := hd.val (j := 5) (by kernel_rfl) rfl rfl rfl
                  have e1 : actq.eval (.tmp 92) = .int .i64 (i : Int) := hd.val (j := 7) (by kernel_rfl) rfl rfl rfl
                  exact wpOp_callL hi rfl (f := 34) (args := #[.agg #[.int .i64 10000, .slice a1 n1 cc1, .slice a2 n2 cc2, .slice a3 n3 cc3], .int .i64 (i : Int)]) (by simp only [execOp_call_go, List.map_toArray, List.map_cons, List.map_nil, e0, e1]; rfl) ((HPS8.out w' hk).mono (fun e w2 ⟨b1, m1, d1, b2, m2, d2, b3, m3, d3, he, hk2, hst⟩ => ⟨_, he, _, rfl, hk2, ⟨b1, m1, d1, b2, m2, d2, b3, m3, d3, rfl, hst.mono (fun b _ h => ⟨.inr h, by have h1 := hk.size; omega⟩)⟩⟩))
              case HE =>
                intro L actq w' gg r hL hT
                have em := act_mix (bs := [true, true, true, true, true, true, true, true, true, true, true, true, false, false, true, true, true, true, true, true, true, true, true, true, true, true, true, true, true, true, true, true, true, true, true, true, true, true, true, true, true, true, true, true, true, true, true, true, true, true, true, true, true, true, true, true, true, true, true, true, true, true, true, true, true, true, true, true, true, true, true, true, true, true, true, true, true, true, true, true, true, true, true, true, false, false, false, false, false, false, false, false, false, false, false, false, true, true, true, true, true, true, true, true, true, true, true, true, true, true, true, true]) hT.sz hT.df hT.fr rfl (by kernel_rfl)
                have kW := hT.kp
                have hR8 := hT.c 8 rfl (hL 8 (by decide))
                obtain ⟨eA12, zA12, cs12, -, bA12, sA12⟩ := hT.al 12 rfl (hL 12 (by decide)) _ 12 rfl rfl
                have sA12 := sA12 13 rfl (hL 13 (by decide)) rfl
                subst sA12
                change actq.tmps.getD 12 undef = _ at eA12
                change Blk w' (gg 12) (aggCells (Mm.tupAt (r 8) 0)) 44 at bA12
                have k13 : actq.tmps.getD 13 undef = Mm.tupAt (r 8) 1 := hT.v 14 _ 13 rfl (hL 14 (by decide)) rfl rfl
                generalize hrv8 : r 8 = rv8 at *
                clear hrv8
                obtain ⟨b1, m1, d1, b2, m2, d2, b3, m3, d3, rfl, hst⟩ := hR8
                change actq.tmps.getD 13 undef = .int .i64 0 at k13
                generalize gg 12 = g12 at *
                clear hT hL
                simp only [mix, eA12, k13] at em
                clear eA12 k13
                generalize actq.tmps.getD 85 undef = q85 at em
                generalize actq.tmps.getD 86 undef = q86 at em
                generalize actq.tmps.getD 87 undef = q87 at em
                generalize actq.tmps.getD 88 undef = q88 at em
                generalize actq.tmps.getD 89 undef = q89 at em
                generalize actq.tmps.getD 90 undef = q90 at em
                generalize actq.tmps.getD 91 undef = q91 at em
                generalize actq.tmps.getD 92 undef = q92 at em
                generalize actq.tmps.getD 93 undef = q93 at em
                generalize actq.tmps.getD 84 undef = q84 at em
                generalize actq.tmps.getD 94 undef = q94 at em
                generalize actq.tmps.getD 95 undef = q95 at em
                subst em
                simp only [Exit.then]
                obtain ⟨W9, rfl⟩ : ∃ V, V = w' := ⟨_, rfl⟩
                change Blk W9 g12 #[.int .i64 10000, .slice b1 m1 d1, .slice b2 m2 d2, .slice b3 m3 d3] _ at bA12
                have HST9 : Hd (StK U N (fun b => b ≠ p) W9 (passS s i) (.slice b1 m1 d1) (.slice b2 m2 d2) (.slice b3 m3 d3)) := hid (hst.mono (fun b _ h => by have h2 := h.2; omega))
                have BX9 := hid (blk_keep BX.out kW (fun h => h))
                have RR := hid bA12
                have HK9 := hid (HK8.out.trans kW)
                have HSL9 := hid (HSL8.out.keep kW (fun _ _ _ h => h))
                have lRR := blk_lt bA12
                clear bA12 hst kW BX HSL8 HPS8
                go_upto_region 21 with fail
                have o_RR_0 : W9.cell? ⟨g12, 0, none⟩ = some ((.int .i64 10000)) := blk_cell RR.out 0
                have o_RR_1 : W9.cell? ⟨g12, 1, none⟩ = some ((.slice b1 m1 d1)) := blk_cell RR.out 1
                have o_RR_2 : W9.cell? ⟨g12, 2, none⟩ = some ((.slice b2 m2 d2)) := blk_cell RR.out 2
                have o_RR_3 : W9.cell? ⟨g12, 3, none⟩ = some ((.slice b3 m3 d3)) := blk_cell RR.out 3
                have pc0 := keep_cell HK9.out (fun h => h) HOC.out.1
                have pf0 := (HK9.out.frozen (p := ⟨p, n * 4, none⟩) lpW (fun h => h)).trans (HR10.out.free _)
                have pc1 := keep_cell HK9.out (fun h => h) HOC.out.2.1
                have pf1 := (HK9.out.frozen (p := ⟨p, n * 4 + 1, none⟩) lpW (fun h => h)).trans (HR10.out.free _)
                have pc2 := keep_cell HK9.out (fun h => h) HOC.out.2.2.1
                have pf2 := (HK9.out.frozen (p := ⟨p, n * 4 + 2, none⟩) lpW (fun h => h)).trans (HR10.out.free _)
                have pc3 := keep_cell HK9.out (fun h => h) HOC.out.2.2.2
                have pf3 := (HK9.out.frozen (p := ⟨p, n * 4 + 3, none⟩) lpW (fun h => h)).trans (HR10.out.free _)
                go_region
                go_upto_region 22 with fail
                clear pc0 pc1 pc2 pc3 pf0 pf1 pf2 pf3
                clear o_RR_0 o_RR_1 o_RR_2 o_RR_3
                generalize hW10 : World.drew (World.setCell (World.setCell (World.setCell (World.setCell W9 _ _) _ _) _ _) _ _) = W10
                have HR11 : Hd (RelW U N fts p W10 (r9.put n (passS s i))) := hid (by have h := HSET.out W9 (passS s i) _ _ _ HK9.out HST9.out.stv; rw [put_put r9 n (by omega)] at h; rw [← hW10]; exact h.keep (Keeps.drew (Keeps.refl _ _)))
                have ks : Keeps (fun b => b = p) W9 W10 := by rw [← hW10]; exact Keeps.drew (set4_keeps W9 p n (.slice b1 m1 d1) (.slice b2 m2 d2) (.slice b3 m3 d3))
                have HK11 : Hd (Keeps (fun b => b = p) W3 W10) := hid ((HK10.out.trans (keep_any HK9.out)).trans ks)
                have BX10 := hid (blk_keep BX9.out ks (fun h => by omega))
                have HSL10 := hid (HSL9.out.keep ks (fun _ _ h => h))
                clear hW10 ks BX9 HSL9 HK9 HST9 RR
                have hw1 : IntKind.i64.wrap ((n : Int) + 1) = (n : Int) + 1 := IntWalk.i64_in _ (by omega)
                have o_BX10_0 : W10.cell? ⟨bX, 0, none⟩ = some ((.int .i64 (i : Int))) := blk_cell BX10.out 0
                have o_BX10_1 : W10.cell? ⟨bX, 1, none⟩ = some ((.int .i64 0)) := blk_cell BX10.out 1
                have o_BX10_2 : W10.cell? ⟨bX, 2, none⟩ = some ((.int .i64 0)) := blk_cell BX10.out 2
                have o_BX10_3 : W10.cell? ⟨bX, 3, none⟩ = some ((.int .i64 ug)) := blk_cell BX10.out 3
                have o_BX10_4 : W10.cell? ⟨bX, 4, none⟩ = some ((.int .i64 uo)) := blk_cell BX10.out 4
                have o_BX10_5 : W10.cell? ⟨bX, 5, none⟩ = some ((.int .i64 ua)) := blk_cell BX10.out 5
                have o_BX10_6 : W10.cell? ⟨bX, 6, none⟩ = some ((.int .u32 (us : Int))) := blk_cell BX10.out 6
                have o_BX10_7 : W10.cell? ⟨bX, 7, none⟩ = some ((.slice ad xl cd)) := blk_cell BX10.out 7
                go_wp2_with fail
                refine (HOFF.out _ HSL10.out).mono ?_
                rintro e W11 ⟨a9, c9, rfl, hsl9, hk11⟩
                have HSL11 := hid hsl9; have HK11b := hid hk11; have HR12 := hid (HR11.out.keep hk11)
                clear hsl9 hk11 HR11 HOFF HSL10 BX10
                clear o_BX10_0 o_BX10_1 o_BX10_2 o_BX10_3 o_BX10_4 o_BX10_5 o_BX10_6 o_BX10_7
                go_wp2_with fail
                refine (HSEND.out _ a9 c9 HR12.out HSL11.out).mono ?_
                rintro e W12 ⟨rfl, r', hn1, hr1, hp1, hk12⟩
                have HN13 := hid (HNX.out _ r' hn1 hr1 hp1)
                have HK13 := hid ((HK11.out.trans (keep_any HK11b.out)).trans hk12)
                clear hn1 hr1 hp1 hk12 HSEND HSL11 HR12 HK11 HK11b
                go_wp2
                go_roundw
                case rel => exact ⟨n + 1, by go_num, by omega, HN13, HK13⟩
                case measure => simp [intOf]; omega
        · have p1 : ¬ ((n : Int) < 2) := by omega
          obtain rfl : n = 2 := by omega
          obtain ⟨rb, h1, h2, h3, -, -, h6⟩ := HN.out
          obtain ⟨rm, g1, g2⟩ := h6 rfl
          have HRB := hid h1
          have HKF : Hd (Keeps (fun b => b = p) w X) := hid (HK3.out.trans HKX.out)
          have HTK : Hd (Tick (ksOf fts) T r rb) := hid ⟨gl, rest, ra, rm, HE0.out, HE1.out, HE2.out, by rw [HR1.out]; exact HR1A.out, g1, g2⟩
          have hp9 : pot rb.fl + rb.cn ≤ C + 18 := by omega
          clear h1 h2 h3 h6 g1 g2
          go_wp2
          go_ret
          exact ⟨rfl, rb, HTK.out, HRB.out, hp9, HKF.out⟩
end Go.Proofs.YtgfekgceeigdiaaDoor
