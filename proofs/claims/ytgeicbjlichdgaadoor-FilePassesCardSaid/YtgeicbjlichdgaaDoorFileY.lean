/- File: FilePasses walked. -/
import Derived.Test.YtgeicbjlichdgaaDoorFileX
namespace Go.Proofs.YtgeicbjlichdgaaDoor
open Go.RowKit
attribute [local go_sem ↓] Go.wp_at_zero Go.wp_at_succ
/-- lists of lists of booleans -/
def Bss (K : Nat → Prop) (w : World) (v : Value) (ls : List (List Bool)) : Prop := ∃ vs : List Value, Row K w 1 v ls.length vs ∧ vs.length = ls.length ∧ ∀ i l, ls[i]? = some l → Row K w 1 (vs.getD i undef) l.length (bls l)
theorem Bss.keep {K S : Nat → Prop} {w w' : World} {v : Value} {ls : List (List Bool)} (h : Bss K w v ls) (hk : Keeps S w w') (hd : ∀ b, b < w.heap.size → K b → ¬ S b) : Bss K w' v ls := by
  obtain ⟨vs, h1, h2, h3⟩ := h
  exact ⟨vs, h1.keep hk hd, h2, fun i l hl => (h3 i l hl).keep hk hd⟩
theorem row_at {K : Nat → Prop} {w : World} {a : Option Addr} {n c : Nat} {xs : List Value} (h : Row K w 1 (.slice a n c) n xs) {k : Nat} (hk : k < n) : ∃ b o, a = some ⟨b, o, none⟩ ∧ K b ∧ b < w.heap.size ∧ w.cell? ⟨b, o + k, none⟩ = some (xs.getD k undef) := by
  obtain ⟨a', c', e, _, _, hel⟩ := h.form
  injection e with e1 e2 e3
  subst e1
  obtain ⟨b, o, ea, hK, hb, hcell⟩ := hel (by omega)
  exact ⟨b, o, ea, hK, hb, hcell k (by omega)⟩
theorem bss_at {K : Nat → Prop} {w : World} {a : Option Addr} {n c : Nat} {ls : List (List Bool)} (h : Bss K w (.slice a n c) ls) {k : Nat} {l : List Bool} (hk : ls[k]? = some l) : ∃ b o a2 c2, a = some ⟨b, o, none⟩ ∧ K b ∧ b < w.heap.size ∧ w.cell? ⟨b, o + k, none⟩ = some (.slice a2 l.length c2) ∧ Row K w 1 (.slice a2 l.length c2) l.length (bls l) ∧ l.length ≤ 9223372036854775807 := by
  obtain ⟨vs, h1, h2, h3⟩ := h
  have hkl : k < ls.length := (List.getElem?_eq_some_iff.1 hk).1
  obtain ⟨a', c', e, _, _, hel⟩ := h1.form
  injection e with e1 e2 e3
  subst e1
  obtain ⟨b, o, ea, hK, hb, hcell⟩ := hel (by omega)
  have h4 := h3 k l hk
  obtain ⟨a2, c2, e4, q1, q2, _⟩ := h4.form
  unfold maxLen at q2
  rw [e4] at h4
  exact ⟨b, o, a2, c2, ea, hK, hb, by rw [hcell k (by omega), e4], h4, by omega⟩
theorem bl_at {K : Nat → Prop} {w : World} {a : Option Addr} {c : Nat} {l : List Bool} (h : Row K w 1 (.slice a l.length c) l.length (bls l)) {k : Nat} (hk : k < l.length) : ∃ b o, a = some ⟨b, o, none⟩ ∧ K b ∧ b < w.heap.size ∧ w.cell? ⟨b, o + k, none⟩ = some (.bool (l.getD k false)) := by
  obtain ⟨b, o, e, h1, h2, h3⟩ := row_at h hk
  exact ⟨b, o, e, h1, h2, by rw [h3]; simp [bls, List.getD, hk]⟩
set_option maxRecDepth 100000 in set_option maxHeartbeats 1000000 in
theorem passes_any (v1 v3 : Value) (l1 : List Nat) (ls : List (List Bool)) (id n0 : Int) (w : World) (hN : Cr.Nib w) (h1 : Sl (fun b => b < w.heap.size) w v1 (u8s l1)) (hl1 : ∀ c ∈ l1, c < 256) (hn0 : -9223372036854775808 ≤ n0 ∧ n0 ≤ 9223372036854775807) (hls : Bss (fun b => b < w.heap.size) w v3 ls) :
    Calls Tryd.prog 8 #[.int .i64 id, v1, .int .i64 n0, v3] w fun e w' => e = .returned (.bool true) ∧ Keeps (fun _ => False) w w' := by
  have HN0 := hid hn0; have HLS := hid hls
  obtain ⟨la3, lc3, rfl, q3⟩ : ∃ a c, v3 = .slice a ls.length c ∧ ls.length ≤ 9223372036854775807 := by
    obtain ⟨vs, h, _⟩ := hls
    obtain ⟨a, c, e, q1, q2, _⟩ := h.form
    unfold maxLen at q2
    exact ⟨a, c, e, by omega⟩
  clear hn0 hls
  obtain ⟨nl, hnl⟩ : ∃ nl, ls.length = nl := ⟨_, rfl⟩
  rw [hnl] at HLS q3 ⊢
  have HNLS := hid hnl
  clear hnl
  have HN : Hd (NibF w) := hid hN
  have hpos := HN.out.pos
  have H1 := hid h1
  obtain ⟨x, hx⟩ : ∃ x, l1.take 700 = x := ⟨_, rfl⟩
  have HFB : Hd (∀ c ∈ x, c < 256) := hid (by rw [← hx]; exact fun c hc => hl1 c (List.mem_of_mem_take hc))
  have hxl : x.length ≤ 700 := by rw [← hx, List.length_take]; omega
  have HFE := hid hx
  clear hN h1 hl1 hx
  go_enter Tryd.func8, Tryd.ntmps8
  go_wp2_with fail
  refine (most_any _ _ l1 _ H1.out).mono ?_
  rw [HFE.out]
  rintro e wx ⟨ma, mc, rfl, hm, rfl⟩
  have SM := hid hm; clear hm
  have HN00 := HN; have SM00 := SM; have HLS00 := HLS
  go_wp2_with fail
  refine (NewPart_any id _).mono ?_
  rintro e W1 ⟨rfl, hp, hk⟩
  have HP := hid hp
  clear hp
  have HN' : Hd (NibF W1) := hid (HN.out.keep hk (fun _ _ _ h => h))
  have H1' : Hd (Sl (fun b => b < w.heap.size) W1 v1 (u8s l1)) := hid (H1.out.keep hk (fun _ _ _ h => h))
  have HLS' : Hd (Bss (fun b => b < w.heap.size) W1 (.slice la3 nl lc3) ls) := hid (HLS.out.keep hk (fun _ _ _ h => h))
  have SM' : Hd (Sl (fun b => b < w.heap.size) W1 (.slice ma x.length mc) (u8s x)) := hid (SM.out.keep hk (fun _ _ _ h => h))
  clear HN H1 HLS SM
  have HN := HN'
  clear HN'
  have H1 := H1'
  clear H1'
  have HLS := HLS'
  clear HLS'
  have SM := SM'
  clear SM'
  have HK : Hd (Keeps (fun _ => False) w W1) := hid hk
  have z_W1 := hk.size
  clear hk
  have lt_p : w.heap.size < W1.heap.size := by obtain ⟨_, _, _, _, hb, _⟩ := HP.out; exact blk_lt hb
  go_wp2_with fail
  go_loopw [11] (fun iv wr => ∃ (kk : Nat) (M : Pm), iv = .int .i64 kk ∧ kk ≤ 12 ∧ kk ≤ nl ∧ Hd (Fit id x M) ∧ Hd (PartR (fun b => w.heap.size ≤ b) wr (w.heap.size) M) ∧ Hd (Keeps (fun _ => False) w wr)) (fun iv _ => 12 - (intOf iv).toNat)
  case atStart => exact ⟨0, newM id, rfl, by omega, by omega, hid (newM_fit id x), hid (HP.out.mono (fun b _ h => by omega)), HK⟩
  case round =>
    obtain ⟨V, hV⟩ : ∃ V, V = wr := ⟨_, rfl⟩
    subst hV
    obtain ⟨kk, M, rfl, hk12, hknl, HFM, HPM, HKM⟩ := hrel
    have HOK := hid HFM.out.ok
    clear HP HN SM HLS H1 HK
    have HK := HKM
    have zV := HKM.out.size
    clear HKM
    have HN : Hd (NibF V) := hid (HN00.out.keep HK.out (fun _ _ _ h => h))
    have SM : Hd (Sl (fun b => b < w.heap.size) V (.slice ma x.length mc) (u8s x)) := hid (SM00.out.keep HK.out (fun _ _ _ h => h))
    have HLS : Hd (Bss (fun b => b < w.heap.size) V (.slice la3 nl lc3) ls) := hid (HLS00.out.keep HK.out (fun _ _ _ h => h))
    have HP : Hd (PartR (fun b => w.heap.size ≤ b ∧ b < V.heap.size) V (w.heap.size) M) := hid (HPM.out.mono (fun b hb h => ⟨h, hb⟩))
    clear HPM
    by_cases hgo : kk < nl ∧ kk < 12
    · obtain ⟨hg1, hg2⟩ := hgo
      have hi1 : (kk : Int) < nl := by omega
      have hi2 : (kk : Int) < 12 := by omega
      have hi3 : (0 : Int) ≤ kk := by omega
      obtain ⟨lk, hlk⟩ : ∃ lk, ls[kk]? = some lk := ⟨ls[kk]'(by rw [HNLS.out]; exact hg1), List.getElem?_eq_getElem _⟩
      have HLK := hid hlk
      clear hlk
      obtain ⟨G, hG⟩ : ∃ G, gapsM M = G := ⟨_, rfl⟩
      have HG := hid hG
      obtain ⟨gl, gb⟩ := gapsM_ok HOK.out
      rw [hG] at gl gb
      have HGL := hid gl; have HGB := hid gb
      clear hG gl gb
      go_wp2_with fail
      refine (Gaps_any _ _ M _ HP.out HOK.out).mono ?_
      rw [HG.out]
      rintro e W2 ⟨ga, gc, rfl, hgo, hk⟩
      have SG : Hd (Gps (fun b => V.heap.size ≤ b) _ (.slice ga G.length gc) G) := hid hgo.row
      clear hgo
      have HN' : Hd (NibF W2) := hid (HN.out.keep hk (fun _ _ _ h => h))
      have HLS' : Hd (Bss (fun b => b < w.heap.size) W2 (.slice la3 nl lc3) ls) := hid (HLS.out.keep hk (fun _ _ _ h => h))
      have SM' : Hd (Sl (fun b => b < w.heap.size) W2 (.slice ma x.length mc) (u8s x)) := hid (SM.out.keep hk (fun _ _ _ h => h))
      have HP' : Hd (PartR (fun b => w.heap.size ≤ b ∧ b < V.heap.size) W2 (w.heap.size) M) := hid (HP.out.keep hk (fun _ _ _ h => h))
      clear HN HLS SM HP
      have HN := HN'
      clear HN'
      have HLS := HLS'
      clear HLS'
      have SM := SM'
      clear SM'
      have HP := HP'
      clear HP'
      have HK' : Hd (Keeps (fun _ => False) w W2) := hid (HK.out.trans hk)
      clear HK
      have HK := HK'
      clear HK'
      have z_W2 := hk.size
      clear hk
      obtain ⟨s0, hs0⟩ : ∃ s0, wrap64 (n0 + (kk : Int)) = s0 := ⟨_, rfl⟩
      have HS0 : Hd (-9223372036854775808 ≤ s0 ∧ s0 ≤ 9223372036854775807) := hid (by rw [← hs0]; unfold wrap64; omega)
      have ws0 : IntKind.i64.wrap (n0 + (kk : Int)) = s0 := by rw [← hs0]; exact IntWalk.i64_left _
      go_wp2_with fail
      try rw [hs0]
      refine (size_any s0 _ HS0.out.1 HS0.out.2).mono ?_
      rintro e wx ⟨rfl, rfl⟩
      have HSLz : Hd (1 + around s0 256 = sizeL s0) := hid rfl
      have HZBz := hid (sizeL_b s0)
      rw [HSLz.out]
      generalize sizeL s0 = z at *
      clear HSLz ws0 hs0 HS0
      obtain ⟨A, hA⟩ : ∃ A, answerL id x G z = A := ⟨_, rfl⟩
      have HA := hid hA
      have HOA : Hd (∀ s ∈ A, OfF id x s) := hid (by rw [← hA]; exact fun s hs => (answer_of s hs).1)
      clear hA
      go_wp2_with fail
      refine (Answer_any _ _ x G id z _ HN.out (SM.out.mono (fun b h _ => h)) HFB.out (SG.out.mono (fun b h _ => h)) (by have := HGL.out; omega) (by omega)).mono ?_
      rw [HA.out]
      rintro e W3 ⟨ra, rn, rc, rfl, rfl, hrp, hk⟩
      have SL := hid (hrp.sgs.mono (K' := fun b => W2.heap.size ≤ b) (fun b _ h => by rcases h with h | h <;> exact h))
      clear hrp
      have HN' : Hd (NibF W3) := hid (HN.out.keep hk (fun _ _ _ h => h))
      have HLS' : Hd (Bss (fun b => b < w.heap.size) W3 (.slice la3 nl lc3) ls) := hid (HLS.out.keep hk (fun _ _ _ h => h))
      have SM' : Hd (Sl (fun b => b < w.heap.size) W3 (.slice ma x.length mc) (u8s x)) := hid (SM.out.keep hk (fun _ _ _ h => h))
      have HP' : Hd (PartR (fun b => w.heap.size ≤ b ∧ b < V.heap.size) W3 (w.heap.size) M) := hid (HP.out.keep hk (fun _ _ _ h => h))
      have SG' : Hd (Gps (fun b => V.heap.size ≤ b) W3 (.slice ga G.length gc) G) := hid (SG.out.keep hk (fun _ _ _ h => h))
      clear HN HLS SM HP SG
      have HN := HN'
      clear HN'
      have HLS := HLS'
      clear HLS'
      have SM := SM'
      clear SM'
      have HP := HP'
      clear HP'
      have SG := SG'
      clear SG'
      have HK' : Hd (Keeps (fun _ => False) w W3) := hid (HK.out.trans hk)
      clear HK
      have HK := HK'
      clear HK'
      have z_W3 := hk.size
      clear hk
      obtain ⟨n, hn⟩ : ∃ n, A.length = n := ⟨_, rfl⟩
      rw [hn] at SL ⊢
      have HNA := hid hn
      clear hn
      have hAl : n ≤ 9223372036854775807 := by obtain ⟨a, c, e, q1, q2⟩ := SL.out.form; unfold maxLen at q2; rw [← HNA.out]; omega
      go_wp2_with fail
      go_loopw [14, 15] (fun av iv wr => ∃ (i : Nat) (ar : Bool), av = .bool ar ∧ iv = .int .i64 i ∧ i ≤ n ∧ Hd (ar = (passL A lk i).any (fun s => decide (0 < s.d.length))) ∧ Hd (PutSt (fun b => w.heap.size ≤ b ∧ b < V.heap.size) W3 (w.heap.size) ((passL A lk i).foldl putM M) wr)) (fun _ iv _ => n - (intOf iv).toNat)
      case atStart => exact ⟨0, false, rfl, rfl, by omega, hid rfl, hid (putSt_start HP.out)⟩
      case round =>
        obtain ⟨i, ar, rfl, rfl, hin, HAR, PS⟩ := hrel
        by_cases hi : i < n
        · have k1 : (i : Int) < n := by omega
          have k2 : (0 : Int) ≤ i := by omega
          obtain ⟨y, hy⟩ : ∃ y, A[i]? = some y := ⟨A[i]'(by rw [HNA.out]; exact hi), List.getElem?_eq_getElem _⟩
          obtain ⟨bx, ox, rfl, hbx, hbx2, hcx⟩ := sgs_cells SL.out (by rw [HNA.out]; omega)
          obtain ⟨x0, x1, x2, x3, ad, cd, x4, SX⟩ := hcx i y hy
          have ps2 := PS.out.2
          have m0 := keep_cell ps2 (fun h => by omega) x0; have m1 := keep_cell ps2 (fun h => by omega) x1; have m2 := keep_cell ps2 (fun h => by omega) x2; have m3 := keep_cell ps2 (fun h => by omega) x3; have m4 := keep_cell ps2 (fun h => by omega) x4
          have HSX := hid SX
          have zps := ps2.size
          obtain ⟨f1, f2, f3⟩ := puts_of (show x.length ≤ 65536 by omega) HFB.out (passL A lk i) M HFM.out (fun s hs => HOA.out s (passL_mem i s hs))
          have HOY := HOA.out y (List.mem_of_getElem? hy)
          obtain ⟨e0, -, -⟩ := put_of (show x.length ≤ 65536 by omega) HFB.out f1 HOY
          have HNX : Hd (lk.getD i false = false → (passL A lk (i + 1)).foldl putM M = putM ((passL A lk i).foldl putM M) y) := hid (fun h => by rw [passL_in hy h, List.foldl_append]; rfl)
          have HNY : Hd (lk.getD i false = true → passL A lk (i + 1) = passL A lk i) := hid (fun h => passL_out hy h)
          have HAR2 : Hd (lk.getD i false = false → (passL A lk (i + 1)).any (fun s => decide (0 < s.d.length)) = ((passL A lk i).any (fun s => decide (0 < s.d.length)) || decide (0 < y.d.length))) := hid (fun h => by rw [passL_in hy h, List.any_append]; simp)
          have HOK2 := hid f1.ok; have HE0 := hid e0; have HYB : Hd (∀ c ∈ y.d, c < 256) := hid (fun c hc => by rw [HOY.d] at hc; exact HFB.out c (List.mem_of_mem_drop (List.mem_of_mem_take hc))); have HY32 : Hd (y.s < 4294967296) := hid (by rw [HOY.s]; exact Cr.crc_lt HFB.out)
          have hyl : y.d.length ≤ 700 := by have := HOY.e; have := HOY.o; omega
          obtain ⟨lb, lo, la2, lc2, rfl, hlb, hlb2, lc, lrow, hlkl⟩ := bss_at HLS.out HLK.out
          have ll1 := keep_cell ps2 (fun h => by omega) lc
          have HLR := hid lrow
          clear x0 x1 x2 x3 x4 hcx SX f1 f2 f3 e0 HOY lc lrow
          by_cases hil : i < lk.length
          · have j1 : ¬ ((lk.length : Int) ≤ (i : Int)) := by omega
            obtain ⟨bb, bo, rfl, hbb, hbb2, bc⟩ := bl_at HLR.out hil
            have bb1 := keep_cell PS.out.2 (fun h => by omega) bc
            clear bc
            obtain ⟨lost, hlost⟩ : ∃ lost, lk.getD i false = lost := ⟨_, rfl⟩
            rw [hlost] at bb1
            cases lost
            · have hlf : lk.getD i false = false := hlost
              clear hlost
              generalize lk.length = lkn at *
              obtain ⟨e3, hm3⟩ := (⟨HAR2.out hlf, HNX.out hlf⟩ : _ ∧ _)
              have HAR3 := hid e3; have HNX3 := hid hm3
              clear e3 hm3 hlf HNX HNY HAR2
              generalize hM2 : (passL A lk i).foldl putM M = M2 at *
              clear hM2
              go_wp2_with fail
              refine (Put_any _ _ M2 y ad cd _ PS.out.1 HOK2.out (sl_below HSX.out PS.out.2 (fun b h1 h2 h3 => by omega) (fun b h1 h2 => by omega)) HYB.out HY32.out).mono ?_
              rintro e w2 hpp
              have hk7 := hpp.2.2
              have m4' := keep_cell hk7 (fun h => by rcases h with h | h <;> omega) m4
              obtain ⟨rfl, PS2⟩ := putSt_put PS.out hpp
              rw [HE0.out]
              rw [← HNX3.out] at PS2
              have HPS := hid PS2
              clear PS2 hpp PS m0 m1 m2 m3 m4 ll1 hk7
              cases ar
              · go_wp2_with fail
                go_roundw
                case rel => exact ⟨i + 1, _, rfl, by go_num, by omega, hid (by rw [HAR3.out, ← HAR.out]; simp), HPS⟩
                case measure => simp [intOf]; omega
              · go_wp2_with fail
                go_roundw
                case rel => exact ⟨i + 1, _, rfl, by go_num, by omega, hid (by rw [HAR3.out, ← HAR.out]; simp), HPS⟩
                case measure => simp [intOf]; omega
            · have HL3 := hid (HNY.out hlost)
              clear HNX HNY HAR2 hlost
              generalize lk.length = lkn at *
              go_wp2_with fail
              go_roundw
              case rel => exact ⟨i + 1, ar, rfl, by go_num, by omega, hid (by rw [HL3.out]; exact HAR.out), hid (by rw [HL3.out]; exact PS.out)⟩
              case measure => simp [intOf]; omega
          · have j1 : (lk.length : Int) ≤ (i : Int) := by omega
            have hlf : lk.getD i false = false := by unfold List.getD; rw [List.getElem?_eq_none (by omega)]; rfl
            generalize lk.length = lkn at *
            obtain ⟨e3, hm3⟩ := (⟨HAR2.out hlf, HNX.out hlf⟩ : _ ∧ _)
            have HAR3 := hid e3; have HNX3 := hid hm3
            clear e3 hm3 hlf HNX HNY HAR2
            generalize hM2 : (passL A lk i).foldl putM M = M2 at *
            clear hM2
            go_wp2_with fail
            refine (Put_any _ _ M2 y ad cd _ PS.out.1 HOK2.out (sl_below HSX.out PS.out.2 (fun b h1 h2 h3 => by omega) (fun b h1 h2 => by omega)) HYB.out HY32.out).mono ?_
            rintro e w2 hpp
            have hk7 := hpp.2.2
            have m4' := keep_cell hk7 (fun h => by rcases h with h | h <;> omega) m4
            obtain ⟨rfl, PS2⟩ := putSt_put PS.out hpp
            rw [HE0.out]
            rw [← HNX3.out] at PS2
            have HPS := hid PS2
            clear PS2 hpp PS m0 m1 m2 m3 m4 ll1 hk7
            cases ar
            · go_wp2_with fail
              go_roundw
              case rel => exact ⟨i + 1, _, rfl, by go_num, by omega, hid (by rw [HAR3.out, ← HAR.out]; simp), HPS⟩
              case measure => simp [intOf]; omega
            · go_wp2_with fail
              go_roundw
              case rel => exact ⟨i + 1, _, rfl, by go_num, by omega, hid (by rw [HAR3.out, ← HAR.out]; simp), HPS⟩
              case measure => simp [intOf]; omega
        · have hie : i = n := by omega
          have k0 : ¬ ((i : Int) < n) := by omega
          obtain ⟨W4, hV4⟩ : ∃ V, V = wr := ⟨_, rfl⟩
          subst hV4
          obtain ⟨hp9, hk⟩ := PS.out
          obtain ⟨pf, pm1, pm2⟩ := pass_miss hxl HFB.out HFM.out (passL A lk i) (fun s hs => by rw [HG.out, HA.out]; exact passL_mem i s hs)
          rw [← HAR.out] at pm2
          rw [HG.out] at pm1 pm2
          clear hin hi
          clear HP
          have HP := hid hp9
          clear hp9 PS
          have HN' : Hd (NibF W4) := hid (HN.out.keep hk (fun b h1 h2 h3 => by omega))
          have HLS' : Hd (Bss (fun b => b < w.heap.size) W4 (.slice la3 nl lc3) ls) := hid (HLS.out.keep hk (fun b h1 h2 h3 => by omega))
          have SM' : Hd (Sl (fun b => b < w.heap.size) W4 (.slice ma x.length mc) (u8s x)) := hid (SM.out.keep hk (fun b h1 h2 h3 => by omega))
          have SG' : Hd (Gps (fun b => V.heap.size ≤ b) W4 (.slice ga G.length gc) G) := hid (SG.out.keep hk (fun b h1 h2 h3 => by omega))
          have SL' : Hd (Sgs (fun b => W2.heap.size ≤ b) W4 (.slice ra n rc) A) := hid (SL.out.keep hk (fun b h1 h2 h3 => by omega))
          clear HN HLS SM SG SL
          have HN := HN'
          clear HN'
          have HLS := HLS'
          clear HLS'
          have SM := SM'
          clear SM'
          have SG := SG'
          clear SG'
          have SL := SL'
          clear SL'
          have HK' : Hd (Keeps (fun _ => False) w W4) := hid (HK.out.trans' hk (fun i hi h => by omega))
          clear HK
          have HK := HK'
          clear HK'
          have z_W4 := hk.size
          clear hk
          generalize hM2 : (passL A lk i).foldl putM M = M2 at *
          clear hM2 hie
          have HFM2 := hid pf; have PM1 := hid pm1; have PM2 := hid pm2
          clear pf pm1 pm2 HAR
          have HOK2 := hid HFM2.out.ok
          obtain ⟨G2, hG2⟩ : ∃ G2, gapsM M2 = G2 := ⟨_, rfl⟩
          have HG2 := hid hG2
          obtain ⟨gl, gb⟩ := gapsM_ok HOK2.out
          rw [hG2] at gl gb
          have HGL2 := hid gl; have HGB2 := hid gb
          clear gl gb
          rw [hG2] at PM1 PM2
          clear hG2
          go_wp2_with fail
          refine (Gaps_any _ _ M2 _ HP.out HOK2.out).mono ?_
          rw [HG2.out]
          rintro e W5 ⟨ga2, gc2, rfl, hgo, hk⟩
          have SG2 : Hd (Gps (fun _ => True) _ (.slice ga2 G2.length gc2) G2) := hid (hgo.row.mono (fun _ _ _ => trivial))
          clear hgo
          have HN' : Hd (NibF W5) := hid (HN.out.keep hk (fun _ _ _ h => h))
          have HLS' : Hd (Bss (fun b => b < w.heap.size) W5 (.slice la3 nl lc3) ls) := hid (HLS.out.keep hk (fun _ _ _ h => h))
          have SM' : Hd (Sl (fun b => b < w.heap.size) W5 (.slice ma x.length mc) (u8s x)) := hid (SM.out.keep hk (fun _ _ _ h => h))
          have SG' : Hd (Gps (fun b => V.heap.size ≤ b) W5 (.slice ga G.length gc) G) := hid (SG.out.keep hk (fun _ _ _ h => h))
          have SL' : Hd (Sgs (fun b => W2.heap.size ≤ b) W5 (.slice ra n rc) A) := hid (SL.out.keep hk (fun _ _ _ h => h))
          have HP' : Hd (PartR (fun b => (fun b => w.heap.size ≤ b ∧ b < V.heap.size) b ∨ W3.heap.size ≤ b) W5 (w.heap.size) M2) := hid (HP.out.keep hk (fun _ _ _ h => h))
          clear HN HLS SM SG SL HP
          have HN := HN'
          clear HN'
          have HLS := HLS'
          clear HLS'
          have SM := SM'
          clear SM'
          have SG := SG'
          clear SG'
          have SL := SL'
          clear SL'
          have HP := HP'
          clear HP'
          have HK' : Hd (Keeps (fun _ => False) w W5) := hid (HK.out.trans hk)
          clear HK
          have HK := HK'
          clear HK'
          have z_W5 := hk.size
          clear hk
          go_wp2_with fail
          refine (Missing_any _ _ G2 _ SG2.out HGL2.out HGB2.out).mono ?_
          rintro e W6 ⟨rfl, hk⟩
          have HN' : Hd (NibF W6) := hid (HN.out.keep hk (fun _ _ _ h => h))
          have HLS' : Hd (Bss (fun b => b < w.heap.size) W6 (.slice la3 nl lc3) ls) := hid (HLS.out.keep hk (fun _ _ _ h => h))
          have SM' : Hd (Sl (fun b => b < w.heap.size) W6 (.slice ma x.length mc) (u8s x)) := hid (SM.out.keep hk (fun _ _ _ h => h))
          have SG' : Hd (Gps (fun b => V.heap.size ≤ b) W6 (.slice ga G.length gc) G) := hid (SG.out.keep hk (fun _ _ _ h => h))
          have SL' : Hd (Sgs (fun b => W2.heap.size ≤ b) W6 (.slice ra n rc) A) := hid (SL.out.keep hk (fun _ _ _ h => h))
          have HP' : Hd (PartR (fun b => (fun b => w.heap.size ≤ b ∧ b < V.heap.size) b ∨ W3.heap.size ≤ b) W6 (w.heap.size) M2) := hid (HP.out.keep hk (fun _ _ _ h => h))
          have SG2' : Hd (Gps (fun _ => True) W6 (.slice ga2 G2.length gc2) G2) := hid (SG2.out.keep hk (fun _ _ _ h => h))
          clear HN HLS SM SG SL HP SG2
          have HN := HN'
          clear HN'
          have HLS := HLS'
          clear HLS'
          have SM := SM'
          clear SM'
          have SG := SG'
          clear SG'
          have SL := SL'
          clear SL'
          have HP := HP'
          clear HP'
          have SG2 := SG2'
          clear SG2'
          have HK' : Hd (Keeps (fun _ => False) w W6) := hid (HK.out.trans hk)
          clear HK
          have HK := HK'
          clear HK'
          have z_W6 := hk.size
          clear hk
          generalize hm2 : missL G2 = m2 at *
          generalize hm1 : missL G = m1 at *
          have HM1 := hid hm1
          clear hm1 hm2
          have g1 : ¬ (m1 < m2) := by have := PM1.out; omega
          go_wp2_with fail
          refine (Missing_any _ _ G _ SG.out HGL.out HGB.out).mono ?_
          rw [HM1.out]
          rintro e W7 ⟨rfl, hk⟩
          have HN' : Hd (NibF W7) := hid (HN.out.keep hk (fun _ _ _ h => h))
          have HLS' : Hd (Bss (fun b => b < w.heap.size) W7 (.slice la3 nl lc3) ls) := hid (HLS.out.keep hk (fun _ _ _ h => h))
          have SM' : Hd (Sl (fun b => b < w.heap.size) W7 (.slice ma x.length mc) (u8s x)) := hid (SM.out.keep hk (fun _ _ _ h => h))
          have SG' : Hd (Gps (fun b => V.heap.size ≤ b) W7 (.slice ga G.length gc) G) := hid (SG.out.keep hk (fun _ _ _ h => h))
          have SL' : Hd (Sgs (fun b => W2.heap.size ≤ b) W7 (.slice ra n rc) A) := hid (SL.out.keep hk (fun _ _ _ h => h))
          have HP' : Hd (PartR (fun b => (fun b => w.heap.size ≤ b ∧ b < V.heap.size) b ∨ W3.heap.size ≤ b) W7 (w.heap.size) M2) := hid (HP.out.keep hk (fun _ _ _ h => h))
          have SG2' : Hd (Gps (fun _ => True) W7 (.slice ga2 G2.length gc2) G2) := hid (SG2.out.keep hk (fun _ _ _ h => h))
          clear HN HLS SM SG SL HP SG2
          have HN := HN'
          clear HN'
          have HLS := HLS'
          clear HLS'
          have SM := SM'
          clear SM'
          have SG := SG'
          clear SG'
          have SL := SL'
          clear SL'
          have HP := HP'
          clear HP'
          have SG2 := SG2'
          clear SG2'
          have HK' : Hd (Keeps (fun _ => False) w W7) := hid (HK.out.trans hk)
          clear HK
          have HK := HK'
          clear HK'
          have z_W7 := hk.size
          clear hk
          cases ar
          · go_wp2_with fail
            go_roundw
            case rel => exact ⟨kk + 1, M2, by go_num, by omega, by omega, HFM2, hid (HP.out.mono (fun b _ h => by rcases h with h | h; exact h.1; omega)), HK⟩
            case measure => simp [intOf]; omega
          · have g2 : ¬ (m1 ≤ m2) := by have := PM2.out rfl; omega
            go_wp2_with fail
            refine (Missing_any _ _ G _ SG.out HGL.out HGB.out).mono ?_
            rw [HM1.out]
            rintro e W8 ⟨rfl, hk⟩
            have HN' : Hd (NibF W8) := hid (HN.out.keep hk (fun _ _ _ h => h))
            have HLS' : Hd (Bss (fun b => b < w.heap.size) W8 (.slice la3 nl lc3) ls) := hid (HLS.out.keep hk (fun _ _ _ h => h))
            have SM' : Hd (Sl (fun b => b < w.heap.size) W8 (.slice ma x.length mc) (u8s x)) := hid (SM.out.keep hk (fun _ _ _ h => h))
            have SG' : Hd (Gps (fun b => V.heap.size ≤ b) W8 (.slice ga G.length gc) G) := hid (SG.out.keep hk (fun _ _ _ h => h))
            have SL' : Hd (Sgs (fun b => W2.heap.size ≤ b) W8 (.slice ra n rc) A) := hid (SL.out.keep hk (fun _ _ _ h => h))
            have HP' : Hd (PartR (fun b => (fun b => w.heap.size ≤ b ∧ b < V.heap.size) b ∨ W3.heap.size ≤ b) W8 (w.heap.size) M2) := hid (HP.out.keep hk (fun _ _ _ h => h))
            have SG2' : Hd (Gps (fun _ => True) W8 (.slice ga2 G2.length gc2) G2) := hid (SG2.out.keep hk (fun _ _ _ h => h))
            clear HN HLS SM SG SL HP SG2
            have HN := HN'
            clear HN'
            have HLS := HLS'
            clear HLS'
            have SM := SM'
            clear SM'
            have SG := SG'
            clear SG'
            have SL := SL'
            clear SL'
            have HP := HP'
            clear HP'
            have SG2 := SG2'
            clear SG2'
            have HK' : Hd (Keeps (fun _ => False) w W8) := hid (HK.out.trans hk)
            clear HK
            have HK := HK'
            clear HK'
            have z_W8 := hk.size
            clear hk
            go_wp2_with fail
            go_roundw
            case rel => exact ⟨kk + 1, M2, by go_num, by omega, by omega, HFM2, hid (HP.out.mono (fun b _ h => by rcases h with h | h; exact h.1; omega)), HK⟩
            case measure => simp [intOf]; omega
    · have hgo2 : nl ≤ kk ∨ (kk < nl ∧ 12 ≤ kk) := by omega
      clear hgo
      obtain ⟨G, hG⟩ : ∃ G, gapsM M = G := ⟨_, rfl⟩
      have HG := hid hG
      obtain ⟨gl, gb⟩ := gapsM_ok HOK.out
      rw [hG] at gl gb
      have HGL := hid gl; have HGB := hid gb
      clear hG gl gb
      rcases hgo2 with hgo2 | ⟨hgo2, hgo3⟩
      · have hi1 : ¬ ((kk : Int) < nl) := by omega
        go_wp2_with fail
        refine (Gaps_any _ _ M _ HP.out HOK.out).mono ?_
        rw [HG.out]
        rintro e W2 ⟨ga, gc, rfl, hgo, hk⟩
        have SG : Hd (Gps (fun b => V.heap.size ≤ b) _ (.slice ga G.length gc) G) := hid hgo.row
        clear hgo
        have HN' : Hd (NibF W2) := hid (HN.out.keep hk (fun _ _ _ h => h))
        have HLS' : Hd (Bss (fun b => b < w.heap.size) W2 (.slice la3 nl lc3) ls) := hid (HLS.out.keep hk (fun _ _ _ h => h))
        have SM' : Hd (Sl (fun b => b < w.heap.size) W2 (.slice ma x.length mc) (u8s x)) := hid (SM.out.keep hk (fun _ _ _ h => h))
        have HP' : Hd (PartR (fun b => w.heap.size ≤ b ∧ b < V.heap.size) W2 (w.heap.size) M) := hid (HP.out.keep hk (fun _ _ _ h => h))
        clear HN HLS SM HP
        have HN := HN'
        clear HN'
        have HLS := HLS'
        clear HLS'
        have SM := SM'
        clear SM'
        have HP := HP'
        clear HP'
        have HK' : Hd (Keeps (fun _ => False) w W2) := hid (HK.out.trans hk)
        clear HK
        have HK := HK'
        clear HK'
        have z_W2 := hk.size
        clear hk
        go_wp2_with fail
        refine (size_any n0 _ HN0.out.1 HN0.out.2).mono ?_
        rintro e wx ⟨rfl, rfl⟩
        have HSLz : Hd (1 + around n0 256 = sizeL n0) := hid rfl
        have HZBz := hid (sizeL_b n0)
        rw [HSLz.out]
        generalize sizeL n0 = z at *
        clear HSLz
        obtain ⟨A, hA⟩ : ∃ A, answerL id x G z = A := ⟨_, rfl⟩
        have HA := hid hA
        have HOA : Hd (∀ s ∈ A, OfF id x s) := hid (by rw [← hA]; exact fun s hs => (answer_of s hs).1)
        obtain ⟨d1, d2⟩ := answer_done (show x.length ≤ 65536 by omega) HFB.out HZBz.out HFM.out
        rw [HG.out, hA] at d1 d2
        have HGD := hid d1; have HBY := hid d2
        clear hA d1 d2
        go_wp2_with fail
        refine (Answer_any _ _ x G id z _ HN.out (SM.out.mono (fun b h _ => h)) HFB.out (SG.out.mono (fun b h _ => h)) (by have := HGL.out; omega) (by omega)).mono ?_
        rw [HA.out]
        rintro e W3 ⟨ra, rn, rc, rfl, rfl, hrp, hk⟩
        have SL := hid (hrp.sgs.mono (K' := fun b => W2.heap.size ≤ b) (fun b _ h => by rcases h with h | h <;> exact h))
        clear hrp
        have HN' : Hd (NibF W3) := hid (HN.out.keep hk (fun _ _ _ h => h))
        have HLS' : Hd (Bss (fun b => b < w.heap.size) W3 (.slice la3 nl lc3) ls) := hid (HLS.out.keep hk (fun _ _ _ h => h))
        have SM' : Hd (Sl (fun b => b < w.heap.size) W3 (.slice ma x.length mc) (u8s x)) := hid (SM.out.keep hk (fun _ _ _ h => h))
        have HP' : Hd (PartR (fun b => w.heap.size ≤ b ∧ b < V.heap.size) W3 (w.heap.size) M) := hid (HP.out.keep hk (fun _ _ _ h => h))
        have SG' : Hd (Gps (fun b => V.heap.size ≤ b) W3 (.slice ga G.length gc) G) := hid (SG.out.keep hk (fun _ _ _ h => h))
        clear HN HLS SM HP SG
        have HN := HN'
        clear HN'
        have HLS := HLS'
        clear HLS'
        have SM := SM'
        clear SM'
        have HP := HP'
        clear HP'
        have SG := SG'
        clear SG'
        have HK' : Hd (Keeps (fun _ => False) w W3) := hid (HK.out.trans hk)
        clear HK
        have HK := HK'
        clear HK'
        have z_W3 := hk.size
        clear hk
        obtain ⟨n, hn⟩ : ∃ n, A.length = n := ⟨_, rfl⟩
        rw [hn] at SL ⊢
        have hal := hn
        clear hn
        have HNL := hid hal
        clear SG
        have hAl : n ≤ 9223372036854775807 := by obtain ⟨a, c, e, q1, q2⟩ := SL.out.form; unfold maxLen at q2; omega
        go_wp2_with fail
        go_loopw [18] (fun iv wr => ∃ k : Nat, iv = .int .i64 k ∧ k ≤ n ∧ Hd (PutSt (fun b => w.heap.size ≤ b ∧ b < V.heap.size) W3 (w.heap.size) ((A.take k).foldl putM M) wr)) (fun iv _ => n - (intOf iv).toNat)
        case atStart => exact ⟨0, rfl, Nat.zero_le _, hid (putSt_start HP.out)⟩
        case round =>
          obtain ⟨k, rfl, hk, PS⟩ := hrel
          by_cases hkm : k < n
          · have k1 : (k : Int) < n := by omega
            have k2 : (0 : Int) ≤ k := by omega
            obtain ⟨y, hy⟩ : ∃ y, A[k]? = some y := ⟨A[k]'(by omega), List.getElem?_eq_getElem _⟩
            obtain ⟨bx, ox, rfl, hbx, hbx2, hcx⟩ := sgs_cells SL.out (by omega)
            obtain ⟨x0, x1, x2, x3, ad, cd, x4, SX⟩ := hcx k y hy
            have ps2 := PS.out.2
            have m0 := keep_cell ps2 (fun h => by omega) x0; have m1 := keep_cell ps2 (fun h => by omega) x1; have m2 := keep_cell ps2 (fun h => by omega) x2; have m3 := keep_cell ps2 (fun h => by omega) x3; have m4 := keep_cell ps2 (fun h => by omega) x4
            have SXR := hid (SX.keep ps2 (fun b h1 h2 h3 => by omega))
            have HSX := hid SX
            have zps := ps2.size
            obtain ⟨f1, f2, f3⟩ := puts_of (show x.length ≤ 65536 by omega) HFB.out (A.take k) M HFM.out (fun s hs => HOA.out s (List.mem_of_mem_take hs))
            have HOY := HOA.out y (List.mem_of_getElem? hy)
            obtain ⟨e0, -, -⟩ := put_of (show x.length ≤ 65536 by omega) HFB.out f1 HOY
            have HNX : Hd ((A.take (k + 1)).foldl putM M = putM ((A.take k).foldl putM M) y) := hid (by rw [List.take_add_one, hy, List.foldl_append]; rfl)
            have HOK := hid f1.ok; have HE0 := hid e0; have HYB : Hd (∀ c ∈ y.d, c < 256) := hid (fun c hc => by rw [HOY.d] at hc; exact HFB.out c (List.mem_of_mem_drop (List.mem_of_mem_take hc))); have HY32 : Hd (y.s < 4294967296) := hid (by rw [HOY.s]; exact Cr.crc_lt HFB.out)
            have HYL : Hd (y.o + y.d.length ≤ x.length ∧ 0 ≤ y.o) := hid ⟨HOY.e, HOY.o⟩
            clear x0 x1 x2 x3 x4 hcx SX ps2 f1 f2 f3 e0 HOY
            generalize hM : (A.take k).foldl putM M = M at *
            clear hM
            go_wp2_with fail
            refine (Put_any _ _ M y ad cd _ PS.out.1 HOK.out (sl_below HSX.out PS.out.2 (fun b h1 h2 h3 => by omega) (fun b h1 h2 => by omega)) HYB.out HY32.out).mono ?_
            rintro e w2 hpp
            obtain ⟨rfl, PS2⟩ := putSt_put PS.out hpp
            rw [HE0.out]
            rw [← HNX.out] at PS2
            have HPS := hid PS2
            clear PS2 hpp PS SXR m0 m1 m2 m3 m4
            go_wp2
            go_roundw
            case rel => exact ⟨k + 1, by go_num, by omega, HPS⟩
            case measure => simp [intOf]; omega
          · have hkn : k = n := by omega
            have k0 : ¬ ((k : Int) < n) := by omega
            have PS9 : PutSt (fun b => w.heap.size ≤ b ∧ b < V.heap.size) W3 (w.heap.size) (A.foldl putM M) wr := by have h := PS.out; rw [List.take_of_length_le (by omega)] at h; exact h
            clear hk hkm PS
            obtain ⟨W4, rfl⟩ : ∃ V, V = wr := ⟨_, rfl⟩
            obtain ⟨hp9, hk⟩ := PS9
            clear HP
            have HP := hid hp9
            clear hp9
            have HN' : Hd (NibF W4) := hid (HN.out.keep hk (fun b h1 h2 h3 => by omega))
            have HLS' : Hd (Bss (fun b => b < w.heap.size) W4 (.slice la3 nl lc3) ls) := hid (HLS.out.keep hk (fun b h1 h2 h3 => by omega))
            have SM' : Hd (Sl (fun b => b < w.heap.size) W4 (.slice ma x.length mc) (u8s x)) := hid (SM.out.keep hk (fun b h1 h2 h3 => by omega))
            have SL' : Hd (Sgs (fun b => W2.heap.size ≤ b) W4 (.slice ra n rc) A) := hid (SL.out.keep hk (fun b h1 h2 h3 => by omega))
            clear HN HLS SM SL
            have HN := HN'
            clear HN'
            have HLS := HLS'
            clear HLS'
            have SM := SM'
            clear SM'
            have SL := SL'
            clear SL'
            have HK' : Hd (Keeps (fun _ => False) w W4) := hid (HK.out.trans' hk (fun i hi h => by omega))
            clear HK
            have HK := HK'
            clear HK'
            have z_W4 := hk.size
            clear hk
            have f1 := (puts_of (show x.length ≤ 65536 by omega) HFB.out A M HFM.out HOA.out).1
            have HOK9 := hid f1.ok
            clear f1
            generalize hM9 : A.foldl putM M = M9 at *
            clear hM9
            go_wp2_with fail
            refine (Bytes_any _ _ M9 _ HN.out HP.out HOK9.out).mono ?_
            rw [HBY.out]
            rintro e W5 ⟨ba, bc, rfl, hbo, hk⟩
            have SB : Hd (Sl (fun _ => True) _ (.slice ba x.length bc) (u8s x)) := hid (row_sl (hbo.row.mono (fun _ _ _ => trivial)) (by simp))
            clear hbo
            have HN' : Hd (NibF W5) := hid (HN.out.keep hk (fun _ _ _ h => h))
            have HLS' : Hd (Bss (fun b => b < w.heap.size) W5 (.slice la3 nl lc3) ls) := hid (HLS.out.keep hk (fun _ _ _ h => h))
            have SM' : Hd (Sl (fun b => b < w.heap.size) W5 (.slice ma x.length mc) (u8s x)) := hid (SM.out.keep hk (fun _ _ _ h => h))
            have SL' : Hd (Sgs (fun b => W2.heap.size ≤ b) W5 (.slice ra n rc) A) := hid (SL.out.keep hk (fun _ _ _ h => h))
            have HP' : Hd (PartR (fun b => (w.heap.size ≤ b ∧ b < V.heap.size) ∨ W3.heap.size ≤ b) W5 (w.heap.size) M9) := hid (HP.out.keep hk (fun _ _ _ h => h))
            clear HN HLS SM SL HP
            have HN := HN'
            clear HN'
            have HLS := HLS'
            clear HLS'
            have SM := SM'
            clear SM'
            have SL := SL'
            clear SL'
            have HP := HP'
            clear HP'
            have HK' : Hd (Keeps (fun _ => False) w W5) := hid (HK.out.trans hk)
            clear HK
            have HK := HK'
            clear HK'
            have z_W5 := hk.size
            clear hk
            go_wp2_with fail
            refine (SameBytes_any _ _ _ _ x x _ SB.out SM.out HFB.out HFB.out).mono ?_
            rw [decide_eq_true (rfl : x = x)]
            rintro e wx ⟨rfl, rfl⟩
            go_wp2_with fail
            refine (lives_any _ HN.out).mono ?_
            rintro e W6 ⟨rfl, hk⟩
            have HN' : Hd (NibF W6) := hid (HN.out.keep hk (fun _ _ _ h => h))
            have HLS' : Hd (Bss (fun b => b < w.heap.size) W6 (.slice la3 nl lc3) ls) := hid (HLS.out.keep hk (fun _ _ _ h => h))
            have SM' : Hd (Sl (fun b => b < w.heap.size) W6 (.slice ma x.length mc) (u8s x)) := hid (SM.out.keep hk (fun _ _ _ h => h))
            have SL' : Hd (Sgs (fun b => W2.heap.size ≤ b) W6 (.slice ra n rc) A) := hid (SL.out.keep hk (fun _ _ _ h => h))
            have HP' : Hd (PartR (fun b => (w.heap.size ≤ b ∧ b < V.heap.size) ∨ W3.heap.size ≤ b) W6 (w.heap.size) M9) := hid (HP.out.keep hk (fun _ _ _ h => h))
            have SB' : Hd (Sl (fun _ => True) W6 (.slice ba x.length bc) (u8s x)) := hid (SB.out.keep hk (fun _ _ _ h => h))
            clear HN HLS SM SL HP SB
            have HN := HN'
            clear HN'
            have HLS := HLS'
            clear HLS'
            have SM := SM'
            clear SM'
            have SL := SL'
            clear SL'
            have HP := HP'
            clear HP'
            have SB := SB'
            clear SB'
            have HK' : Hd (Keeps (fun _ => False) w W6) := hid (HK.out.trans hk)
            clear HK
            have HK := HK'
            clear HK'
            have z_W6 := hk.size
            clear hk
            go_wp2
            go_ret
            exact ⟨rfl, HK.out⟩
      · have hi1 : (kk : Int) < nl := by omega
        have hi2 : ¬ ((kk : Int) < 12) := by omega
        go_wp2_with fail
        refine (Gaps_any _ _ M _ HP.out HOK.out).mono ?_
        rw [HG.out]
        rintro e W2 ⟨ga, gc, rfl, hgo, hk⟩
        have SG : Hd (Gps (fun b => V.heap.size ≤ b) _ (.slice ga G.length gc) G) := hid hgo.row
        clear hgo
        have HN' : Hd (NibF W2) := hid (HN.out.keep hk (fun _ _ _ h => h))
        have HLS' : Hd (Bss (fun b => b < w.heap.size) W2 (.slice la3 nl lc3) ls) := hid (HLS.out.keep hk (fun _ _ _ h => h))
        have SM' : Hd (Sl (fun b => b < w.heap.size) W2 (.slice ma x.length mc) (u8s x)) := hid (SM.out.keep hk (fun _ _ _ h => h))
        have HP' : Hd (PartR (fun b => w.heap.size ≤ b ∧ b < V.heap.size) W2 (w.heap.size) M) := hid (HP.out.keep hk (fun _ _ _ h => h))
        clear HN HLS SM HP
        have HN := HN'
        clear HN'
        have HLS := HLS'
        clear HLS'
        have SM := SM'
        clear SM'
        have HP := HP'
        clear HP'
        have HK' : Hd (Keeps (fun _ => False) w W2) := hid (HK.out.trans hk)
        clear HK
        have HK := HK'
        clear HK'
        have z_W2 := hk.size
        clear hk
        go_wp2_with fail
        refine (size_any n0 _ HN0.out.1 HN0.out.2).mono ?_
        rintro e wx ⟨rfl, rfl⟩
        have HSLz : Hd (1 + around n0 256 = sizeL n0) := hid rfl
        have HZBz := hid (sizeL_b n0)
        rw [HSLz.out]
        generalize sizeL n0 = z at *
        clear HSLz
        obtain ⟨A, hA⟩ : ∃ A, answerL id x G z = A := ⟨_, rfl⟩
        have HA := hid hA
        have HOA : Hd (∀ s ∈ A, OfF id x s) := hid (by rw [← hA]; exact fun s hs => (answer_of s hs).1)
        obtain ⟨d1, d2⟩ := answer_done (show x.length ≤ 65536 by omega) HFB.out HZBz.out HFM.out
        rw [HG.out, hA] at d1 d2
        have HGD := hid d1; have HBY := hid d2
        clear hA d1 d2
        go_wp2_with fail
        refine (Answer_any _ _ x G id z _ HN.out (SM.out.mono (fun b h _ => h)) HFB.out (SG.out.mono (fun b h _ => h)) (by have := HGL.out; omega) (by omega)).mono ?_
        rw [HA.out]
        rintro e W3 ⟨ra, rn, rc, rfl, rfl, hrp, hk⟩
        have SL := hid (hrp.sgs.mono (K' := fun b => W2.heap.size ≤ b) (fun b _ h => by rcases h with h | h <;> exact h))
        clear hrp
        have HN' : Hd (NibF W3) := hid (HN.out.keep hk (fun _ _ _ h => h))
        have HLS' : Hd (Bss (fun b => b < w.heap.size) W3 (.slice la3 nl lc3) ls) := hid (HLS.out.keep hk (fun _ _ _ h => h))
        have SM' : Hd (Sl (fun b => b < w.heap.size) W3 (.slice ma x.length mc) (u8s x)) := hid (SM.out.keep hk (fun _ _ _ h => h))
        have HP' : Hd (PartR (fun b => w.heap.size ≤ b ∧ b < V.heap.size) W3 (w.heap.size) M) := hid (HP.out.keep hk (fun _ _ _ h => h))
        have SG' : Hd (Gps (fun b => V.heap.size ≤ b) W3 (.slice ga G.length gc) G) := hid (SG.out.keep hk (fun _ _ _ h => h))
        clear HN HLS SM HP SG
        have HN := HN'
        clear HN'
        have HLS := HLS'
        clear HLS'
        have SM := SM'
        clear SM'
        have HP := HP'
        clear HP'
        have SG := SG'
        clear SG'
        have HK' : Hd (Keeps (fun _ => False) w W3) := hid (HK.out.trans hk)
        clear HK
        have HK := HK'
        clear HK'
        have z_W3 := hk.size
        clear hk
        obtain ⟨n, hn⟩ : ∃ n, A.length = n := ⟨_, rfl⟩
        rw [hn] at SL ⊢
        have hal := hn
        clear hn
        have HNL := hid hal
        clear SG
        have hAl : n ≤ 9223372036854775807 := by obtain ⟨a, c, e, q1, q2⟩ := SL.out.form; unfold maxLen at q2; omega
        go_wp2_with fail
        go_loopw [18] (fun iv wr => ∃ k : Nat, iv = .int .i64 k ∧ k ≤ n ∧ Hd (PutSt (fun b => w.heap.size ≤ b ∧ b < V.heap.size) W3 (w.heap.size) ((A.take k).foldl putM M) wr)) (fun iv _ => n - (intOf iv).toNat)
        case atStart => exact ⟨0, rfl, Nat.zero_le _, hid (putSt_start HP.out)⟩
        case round =>
          obtain ⟨k, rfl, hk, PS⟩ := hrel
          by_cases hkm : k < n
          · have k1 : (k : Int) < n := by omega
            have k2 : (0 : Int) ≤ k := by omega
            obtain ⟨y, hy⟩ : ∃ y, A[k]? = some y := ⟨A[k]'(by omega), List.getElem?_eq_getElem _⟩
            obtain ⟨bx, ox, rfl, hbx, hbx2, hcx⟩ := sgs_cells SL.out (by omega)
            obtain ⟨x0, x1, x2, x3, ad, cd, x4, SX⟩ := hcx k y hy
            have ps2 := PS.out.2
            have m0 := keep_cell ps2 (fun h => by omega) x0; have m1 := keep_cell ps2 (fun h => by omega) x1; have m2 := keep_cell ps2 (fun h => by omega) x2; have m3 := keep_cell ps2 (fun h => by omega) x3; have m4 := keep_cell ps2 (fun h => by omega) x4
            have SXR := hid (SX.keep ps2 (fun b h1 h2 h3 => by omega))
            have HSX := hid SX
            have zps := ps2.size
            obtain ⟨f1, f2, f3⟩ := puts_of (show x.length ≤ 65536 by omega) HFB.out (A.take k) M HFM.out (fun s hs => HOA.out s (List.mem_of_mem_take hs))
            have HOY := HOA.out y (List.mem_of_getElem? hy)
            obtain ⟨e0, -, -⟩ := put_of (show x.length ≤ 65536 by omega) HFB.out f1 HOY
            have HNX : Hd ((A.take (k + 1)).foldl putM M = putM ((A.take k).foldl putM M) y) := hid (by rw [List.take_add_one, hy, List.foldl_append]; rfl)
            have HOK := hid f1.ok; have HE0 := hid e0; have HYB : Hd (∀ c ∈ y.d, c < 256) := hid (fun c hc => by rw [HOY.d] at hc; exact HFB.out c (List.mem_of_mem_drop (List.mem_of_mem_take hc))); have HY32 : Hd (y.s < 4294967296) := hid (by rw [HOY.s]; exact Cr.crc_lt HFB.out)
            have HYL : Hd (y.o + y.d.length ≤ x.length ∧ 0 ≤ y.o) := hid ⟨HOY.e, HOY.o⟩
            clear x0 x1 x2 x3 x4 hcx SX ps2 f1 f2 f3 e0 HOY
            generalize hM : (A.take k).foldl putM M = M at *
            clear hM
            go_wp2_with fail
            refine (Put_any _ _ M y ad cd _ PS.out.1 HOK.out (sl_below HSX.out PS.out.2 (fun b h1 h2 h3 => by omega) (fun b h1 h2 => by omega)) HYB.out HY32.out).mono ?_
            rintro e w2 hpp
            obtain ⟨rfl, PS2⟩ := putSt_put PS.out hpp
            rw [HE0.out]
            rw [← HNX.out] at PS2
            have HPS := hid PS2
            clear PS2 hpp PS SXR m0 m1 m2 m3 m4
            go_wp2
            go_roundw
            case rel => exact ⟨k + 1, by go_num, by omega, HPS⟩
            case measure => simp [intOf]; omega
          · have hkn : k = n := by omega
            have k0 : ¬ ((k : Int) < n) := by omega
            have PS9 : PutSt (fun b => w.heap.size ≤ b ∧ b < V.heap.size) W3 (w.heap.size) (A.foldl putM M) wr := by have h := PS.out; rw [List.take_of_length_le (by omega)] at h; exact h
            clear hk hkm PS
            obtain ⟨W4, rfl⟩ : ∃ V, V = wr := ⟨_, rfl⟩
            obtain ⟨hp9, hk⟩ := PS9
            clear HP
            have HP := hid hp9
            clear hp9
            have HN' : Hd (NibF W4) := hid (HN.out.keep hk (fun b h1 h2 h3 => by omega))
            have HLS' : Hd (Bss (fun b => b < w.heap.size) W4 (.slice la3 nl lc3) ls) := hid (HLS.out.keep hk (fun b h1 h2 h3 => by omega))
            have SM' : Hd (Sl (fun b => b < w.heap.size) W4 (.slice ma x.length mc) (u8s x)) := hid (SM.out.keep hk (fun b h1 h2 h3 => by omega))
            have SL' : Hd (Sgs (fun b => W2.heap.size ≤ b) W4 (.slice ra n rc) A) := hid (SL.out.keep hk (fun b h1 h2 h3 => by omega))
            clear HN HLS SM SL
            have HN := HN'
            clear HN'
            have HLS := HLS'
            clear HLS'
            have SM := SM'
            clear SM'
            have SL := SL'
            clear SL'
            have HK' : Hd (Keeps (fun _ => False) w W4) := hid (HK.out.trans' hk (fun i hi h => by omega))
            clear HK
            have HK := HK'
            clear HK'
            have z_W4 := hk.size
            clear hk
            have f1 := (puts_of (show x.length ≤ 65536 by omega) HFB.out A M HFM.out HOA.out).1
            have HOK9 := hid f1.ok
            clear f1
            generalize hM9 : A.foldl putM M = M9 at *
            clear hM9
            go_wp2_with fail
            refine (Bytes_any _ _ M9 _ HN.out HP.out HOK9.out).mono ?_
            rw [HBY.out]
            rintro e W5 ⟨ba, bc, rfl, hbo, hk⟩
            have SB : Hd (Sl (fun _ => True) _ (.slice ba x.length bc) (u8s x)) := hid (row_sl (hbo.row.mono (fun _ _ _ => trivial)) (by simp))
            clear hbo
            have HN' : Hd (NibF W5) := hid (HN.out.keep hk (fun _ _ _ h => h))
            have HLS' : Hd (Bss (fun b => b < w.heap.size) W5 (.slice la3 nl lc3) ls) := hid (HLS.out.keep hk (fun _ _ _ h => h))
            have SM' : Hd (Sl (fun b => b < w.heap.size) W5 (.slice ma x.length mc) (u8s x)) := hid (SM.out.keep hk (fun _ _ _ h => h))
            have SL' : Hd (Sgs (fun b => W2.heap.size ≤ b) W5 (.slice ra n rc) A) := hid (SL.out.keep hk (fun _ _ _ h => h))
            have HP' : Hd (PartR (fun b => (w.heap.size ≤ b ∧ b < V.heap.size) ∨ W3.heap.size ≤ b) W5 (w.heap.size) M9) := hid (HP.out.keep hk (fun _ _ _ h => h))
            clear HN HLS SM SL HP
            have HN := HN'
            clear HN'
            have HLS := HLS'
            clear HLS'
            have SM := SM'
            clear SM'
            have SL := SL'
            clear SL'
            have HP := HP'
            clear HP'
            have HK' : Hd (Keeps (fun _ => False) w W5) := hid (HK.out.trans hk)
            clear HK
            have HK := HK'
            clear HK'
            have z_W5 := hk.size
            clear hk
            go_wp2_with fail
            refine (SameBytes_any _ _ _ _ x x _ SB.out SM.out HFB.out HFB.out).mono ?_
            rw [decide_eq_true (rfl : x = x)]
            rintro e wx ⟨rfl, rfl⟩
            go_wp2_with fail
            refine (lives_any _ HN.out).mono ?_
            rintro e W6 ⟨rfl, hk⟩
            have HN' : Hd (NibF W6) := hid (HN.out.keep hk (fun _ _ _ h => h))
            have HLS' : Hd (Bss (fun b => b < w.heap.size) W6 (.slice la3 nl lc3) ls) := hid (HLS.out.keep hk (fun _ _ _ h => h))
            have SM' : Hd (Sl (fun b => b < w.heap.size) W6 (.slice ma x.length mc) (u8s x)) := hid (SM.out.keep hk (fun _ _ _ h => h))
            have SL' : Hd (Sgs (fun b => W2.heap.size ≤ b) W6 (.slice ra n rc) A) := hid (SL.out.keep hk (fun _ _ _ h => h))
            have HP' : Hd (PartR (fun b => (w.heap.size ≤ b ∧ b < V.heap.size) ∨ W3.heap.size ≤ b) W6 (w.heap.size) M9) := hid (HP.out.keep hk (fun _ _ _ h => h))
            have SB' : Hd (Sl (fun _ => True) W6 (.slice ba x.length bc) (u8s x)) := hid (SB.out.keep hk (fun _ _ _ h => h))
            clear HN HLS SM SL HP SB
            have HN := HN'
            clear HN'
            have HLS := HLS'
            clear HLS'
            have SM := SM'
            clear SM'
            have SL := SL'
            clear SL'
            have HP := HP'
            clear HP'
            have SB := SB'
            clear SB'
            have HK' : Hd (Keeps (fun _ => False) w W6) := hid (HK.out.trans hk)
            clear HK
            have HK := HK'
            clear HK'
            have z_W6 := hk.size
            clear hk
            go_wp2
            go_ret
            exact ⟨rfl, HK.out⟩
end Go.Proofs.YtgeicbjlichdgaaDoor
