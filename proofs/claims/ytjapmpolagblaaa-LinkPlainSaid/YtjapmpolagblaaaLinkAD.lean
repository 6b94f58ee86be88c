/- Link: LinkPlain walked. -/
import Derived.Test.YtjapmpolagblaaaLinkX
namespace Go.Proofs.Ytjapmpolagblaaa
open Go.RowKit
attribute [local go_sem ↓] Go.wp_at_zero Go.wp_at_succ
theorem arc_one {K : Nat → Prop} {w : World} {xs : List Value} {l : List Flt} (h : ArC K w xs l) : ∀ u ∈ xs, u.oneCell' = true := by
  intro u hu
  obtain ⟨p, hp, rfl⟩ := List.getElem_of_mem hu
  have hl := h.1
  have hi : p / 3 < l.length := by omega
  have key : ∀ j, p % 3 = j → xs[p] = xs.getD (p / 3 * 3 + j) undef := fun j hj => by
    have : p / 3 * 3 + j = p := by omega
    rw [this, List.getD, List.getElem?_eq_getElem hp]; rfl
  obtain ⟨c0, c1, c2⟩ := h.2 _ _ (List.getElem?_eq_getElem hi)
  rcases (show p % 3 = 0 ∨ p % 3 = 1 ∨ p % 3 = 2 by omega) with hj | hj | hj
  · rw [key 0 hj]; exact (congrArg Value.oneCell' c0).trans rfl
  · rw [key 1 hj]; exact (congrArg Value.oneCell' c1).trans rfl
  · rw [key 2 hj]
    obtain ⟨a, cap, e, _⟩ := c2.bytes
    exact (congrArg Value.oneCell' e).trans rfl
theorem arc_mono {K K' : Nat → Prop} {w : World} {xs : List Value} {l : List Flt} (h : ArC K w xs l) (hd : ∀ b, b < w.heap.size → K b → K' b) : ArC K' w xs l := ⟨h.1, fun i x hi => (h.2 i x hi).mono hd⟩
theorem arc_drop {K : Nat → Prop} {w : World} {xs : List Value} {l : List Flt} (h : ArC K w xs l) (k : Nat) : ArC K w (xs.drop (k * 3)) (l.drop k) := by
  refine ⟨by rw [List.length_drop, List.length_drop, h.1]; omega, fun i x hx => ?_⟩
  rw [List.getElem?_drop] at hx
  refine (h.2 _ x hx).congr (fun j hj => ?_)
  unfold List.getD
  rw [List.getElem?_drop]
  congr 2; omega
/-- messages in a row of the call's own, with bytes of its own -/
def ArO (B : Nat) (w : World) (v : Value) (l : List Flt) : Prop :=
  ∃ xs, Own (fun b => v.ownBlock = some b) w 37 3 v l.length xs ∧ (∀ b, v.ownBlock = some b → B ≤ b) ∧ ArC (fun b => B ≤ b ∧ v.ownBlock ≠ some b) w xs l
theorem ArO.nil (B : Nat) (w : World) : ArO B w (.slice none 0 0) [] := ⟨[], Own.nil _ _ _ _, fun b h => by simp [Value.ownBlock] at h, ArC.nil _ _⟩
theorem ArO.keep {B : Nat} {S : Nat → Prop} {w w' : World} {v : Value} {l : List Flt} (h : ArO B w v l) (hk : Keeps S w w') (hd : ∀ b, b < w.heap.size → B ≤ b → ¬ S b) : ArO B w' v l := by
  obtain ⟨xs, h1, h2, h3⟩ := h
  exact ⟨xs, h1.keep hk (fun b hb hh => hd b hb (h2 b hh)), h2, h3.keep hk (fun b hb hh => hd b hb hh.1)⟩
theorem ArO.lt {B : Nat} {w : World} {v : Value} {l : List Flt} (h : ArO B w v l) : ∀ b, v.ownBlock = some b → b < w.heap.size := by
  obtain ⟨xs, h1, h2, h3⟩ := h
  exact fun b hb => (h1.1.lt b hb).2
theorem aro_app {B : Nat} {wr V w7 : World} {v v7 : Value} {l : List Flt} {x : Flt} {a6 : Option Addr} {c6 : Nat} {xs : List Value}
    (ho : Own (fun b => v.ownBlock = some b) wr 37 3 v l.length xs) (hge : ∀ b, v.ownBlock = some b → B ≤ b) (hc : ArC (fun b => B ≤ b ∧ v.ownBlock ≠ some b) wr xs l)
    (hV : Keeps (fun _ => False) wr V) (hs : Sl (fun b => B ≤ b ∧ v.ownBlock ≠ some b) wr (.slice a6 x.d.length c6) (u8s x.d)) (hB : B ≤ V.heap.size)
    (h7 : Own (fun k => v.ownBlock = some k ∨ V.heap.size ≤ k) w7 37 3 v7 (l.length + 1) (xs ++ [.int .i64 x.f, .int .i64 x.g, .slice a6 x.d.length c6])) (hk7 : Keeps (fun b => v.ownBlock = some b) V w7) :
    ArO B w7 v7 (l ++ [x]) := by
  have zV := hV.size
  have hk : Keeps (fun b => v.ownBlock = some b) wr w7 := (hV.mono (fun _ _ h => h.elim)).trans hk7
  have key : ∀ b, b < wr.heap.size → (B ≤ b ∧ v.ownBlock ≠ some b) → (B ≤ b ∧ v7.ownBlock ≠ some b) ∧ v.ownBlock ≠ some b := fun b hb h => ⟨⟨h.1, fun e => by
    rcases h7.2 b e with h' | h'
    · exact h.2 h'
    · omega⟩, h.2⟩
  refine ⟨_, ⟨by rw [List.length_append]; exact h7.1, fun _ h => h⟩, fun b hb => ?_, ?_⟩
  · rcases h7.2 b hb with h | h
    · exact hge b h
    · omega
  · refine ArC.app (arc_mono ((arc_mono hc key).keep hk (fun b _ h1 h2 => h1.2 h2)) (fun b _ h => h.1)) ?_ rfl
    exact ⟨rfl, rfl, ((hs.mono key).keep hk (fun b _ h1 h2 => h1.2 h2)).mono (fun b _ h => h.1)⟩
/-- what is under way is what is due -/
def PlainI (L E : List Flt) (T cn : Int) : Prop := (∀ x ∈ L, x.t = T + 1 ∧ x.n < cn ∧ x.d.length ≤ 100 ∧ ∀ c ∈ x.d, c < 256) ∧ EqA L E
theorem plain_nil (D : List Flt) (T cn : Int) : PlainI [] (D.drop D.length) T cn := ⟨by simp, by rw [List.drop_length]; exact EqA.refl _⟩
theorem putL_last {L : List Flt} {T cn : Int} {x : Flt} (h : ∀ y ∈ L, y.t = T + 1 ∧ y.n < cn) (hx : x.t = T + 1) (hn : x.n = cn) : putL L x = L ++ [x] := by
  have hb : ∀ y ∈ L, fBefore x y = true := fun y hy => by
    obtain ⟨h1, h2⟩ := h y hy
    simp [fBefore, hx, h1, hn]; omega
  have hk : putK L x = L.length := putK_at (Nat.le_refl _) (fun i y _ hy => hb y (List.mem_of_getElem? hy)) (fun y hy => by rw [List.getElem?_eq_none (Nat.le_refl _)] at hy; cases hy)
  unfold putL
  rw [hk]; simp
theorem plain_send {L E : List Flt} {T cn : Int} {ws : List Win} {fr tt : Int} {data : List Nat} (h : PlainI L E T cn) (h1 : data.length ≤ 100) (h2 : ∀ c ∈ data, c < 256) :
    sendL L cn ws [] T fr tt data = (L, cn, false) ∨ (sendL L cn ws [] T fr tt data = (L ++ [⟨T + 1, cn, fr, tt, data⟩], cn + 1, true) ∧ ∀ (D : List Flt) (k : Nat), k ≤ D.length → D.drop k = E → PlainI (L ++ [⟨T + 1, cn, fr, tt, data⟩]) ((D ++ [(⟨0, 0, fr, tt, data⟩ : Flt)]).drop k) T (cn + 1)) := by
  unfold sendL sendR
  split
  · exact .inl rfl
  · split
    · exact .inl rfl
    · right
      have e1 : sentL L (fateL [] cn) cn T fr tt data (delays (fateL [] cn)) = L ++ [⟨T + 1, cn, fr, tt, data⟩] := by
        show putL L ⟨T + 1 + 0, cn, fr, tt, data⟩ = _
        rw [putL_last (T := T) (cn := cn) (fun y hy => ⟨(h.1 y hy).1, (h.1 y hy).2.1⟩) (by show T + 1 + 0 = T + 1; omega) rfl, show T + 1 + 0 = T + 1 by omega]
      refine ⟨by rw [e1], fun D k hk hD => ⟨fun x hx => ?_, ?_⟩⟩
      · rcases List.mem_append.1 hx with hx | hx
        · obtain ⟨a, b, c, d⟩ := h.1 x hx
          exact ⟨a, by omega, c, d⟩
        · simp at hx; subst hx
          exact ⟨rfl, by show cn < cn + 1; omega, h1, h2⟩
      · rw [List.drop_append_of_le_length hk, hD]
        obtain ⟨g1, g2⟩ := h.2
        refine ⟨by rw [List.length_append, List.length_append, g1]; rfl, fun i x y hx hy => ?_⟩
        rcases Nat.lt_or_ge i L.length with hi | hi
        · rw [List.getElem?_append_left hi] at hx
          rw [List.getElem?_append_left (by omega)] at hy
          exact g2 i x y hx hy
        · rw [List.getElem?_append_right hi] at hx
          rw [List.getElem?_append_right (by omega)] at hy
          rw [g1] at hx
          rcases Nat.eq_zero_or_pos (i - E.length) with h0 | h0
          · rw [h0] at hx hy
            simp at hx hy
            subst hx; subst hy
            exact ⟨rfl, rfl, rfl⟩
          · rw [List.getElem?_eq_none (by show 1 ≤ _; omega)] at hx; cases hx
set_option maxRecDepth 100000 in set_option maxHeartbeats 1000000 in
theorem plain_any (v0 v1 : Value) (l0 : List Int) (m : Nat) (w : World) (h0 : Sl (fun b => b < w.heap.size) w v0 (i64s l0)) (hl0 : ∀ n ∈ l0, -9223372036854775808 ≤ n ∧ n ≤ 9223372036854775807) (h1 : ArrS 2 (fun b => b < w.heap.size) w v1 m) :
    Calls Try.prog 3 #[v0, v1] w fun e w' => e = .returned (.bool true) ∧ Keeps (fun _ => False) w w' := by
  obtain ⟨i0, zz, hi, hz0, hz1, hz2, hz3⟩ := ar_parts
  obtain ⟨sa, cap, rfl, hcap, hcm, hel⟩ := h1
  unfold maxLen at hcm
  have H0 := hid h0; have HL0 := hid hl0; have HEL := hid hel
  clear h0 hl0 hel
  go_enter Try.func3, Try.ntmps3
  go_wp2_with fail
  refine (Table_any _ l0 _ H0.out HL0.out).mono ?_
  rintro e W1 ⟨at', nt, ct, ws, rfl, rfl, hw8, hws, hsw, hk⟩
  have HWS := hid hws; have HSW := hid hsw; clear hws hsw
  have HK : Hd (Keeps (fun _ => False) w W1) := hid hk
  have z_W1 := hk.size
  clear hk
  have HWS' : Hd (Wins (fun b => w.heap.size ≤ b ∧ b < W1.heap.size) W1 (.slice at' ws.length ct) ws) := hid (HWS.out.mono (fun b h1 h2 => ⟨h2, h1⟩))
  clear HWS
  have HWS := HWS'
  clear HWS'
  go_upto_region 3 with fail
  generalize hW : World.alloc W1 _ = W2
  have KS : Hd (Keeps (fun _ => False) W1 W2) := hid (by rw [← hW]; exact (Keeps.alloc (Keeps.refl (fun _ => False) W1) _))
  have HWS' : Hd (Wins (fun b => w.heap.size ≤ b ∧ b < W1.heap.size) W2 (.slice at' ws.length ct) ws) := hid (HWS.out.keep KS.out (fun _ _ _ h => h))
  have BK : Hd (Blk W2 W1.heap.size #[.slice none 0 0, .int .i64 0] 28) := hid (by rw [← hW]; exact (blk_new _ _ _))
  clear HWS
  have HWS := HWS'
  clear HWS'
  have HK' : Hd (Keeps (fun _ => False) w W2) := hid (HK.out.trans KS.out)
  clear HK
  have HK := HK'
  clear HK'
  have z_W2 : W1.heap.size + 1 ≤ W2.heap.size := by rw [← hW]; simp
  clear hW KS
  go_wp2_with fail
  go_loopw [7, 8, 9, 10] (fun dv av tv iv wr => ∃ (k at0 : Nat) (T : Int) (L D : List Flt) (ad : Option Addr) (cd : Nat) (a1 : Option Addr) (c1 : Nat), dv = .slice ad D.length cd ∧ av = .int .i64 at0 ∧ tv = .int .i64 T ∧ iv = .int .i64 k ∧ k ≤ m ∧ k ≤ 12 ∧ 0 ≤ T ∧ T ≤ 2 * k ∧ at0 ≤ D.length ∧ D.length ≤ k ∧ W2.heap.size ≤ wr.heap.size ∧ Hd (PlainI L (D.drop at0) T D.length) ∧ Hd (Blk wr W1.heap.size #[.slice a1 L.length c1, .int .i64 (D.length : Int)] 28) ∧ Hd (Fls (fun b => W2.heap.size ≤ b ∧ (Value.slice ad D.length cd).ownBlock ≠ some b) wr (.slice a1 L.length c1) L) ∧ Hd (ArO W2.heap.size wr (.slice ad D.length cd) D) ∧ Hd (Wins (fun b => w.heap.size ≤ b ∧ b < W1.heap.size) wr (.slice at' ws.length ct) ws) ∧ Hd (Keeps (fun _ => False) w wr)) (fun _ _ _ i _ => m - (intOf i).toNat)
  case atStart => exact ⟨0, 0, 0, [], [], none, 0, none, 0, rfl, rfl, rfl, rfl, Nat.zero_le _, Nat.zero_le _, Int.le_refl _, by simp, Nat.zero_le _, Nat.zero_le _, Nat.le_refl _, hid (plain_nil [] 0 _), BK, hid ⟨[], ⟨rfl, .inl ⟨rfl, rfl⟩⟩, fun i x h => by simp at h⟩, hid (ArO.nil _ _), HWS, HK⟩
  case round =>
    clear BK HWS HK
    obtain ⟨k, at0, T, L, D, ad, cd, a1, c1, rfl, rfl, rfl, rfl, hk, hk12, ht0, ht1, hat, hdk, zq, PI, BK, F1, AO, HWS, HK⟩ := hrel
    have zr : W1.heap.size < wr.heap.size := blk_lt BK.out
    by_cases hkm : k < m ∧ k < 12
    · obtain ⟨h1, h2⟩ := hkm
      obtain ⟨b, o, rfl, hb1, hb2, hc4⟩ := HEL.out k h1
      obtain ⟨z0, y0, q0, r0⟩ := hc4 0 (by omega)
      obtain ⟨z1, y1, q1, r1⟩ := hc4 1 (by omega)
      have f0 : wr.cell? ⟨b, o + k * 2, none⟩ = some (.int .i64 z0) := keep_cell HK.out (fun h => h) y0
      have Y1 := hid y1
      have B1 := hid q0; have B2 := hid r0; have B3 := hid q1; have B4 := hid r1
      clear y0 y1 q0 r0 q1 r1 hc4
      have k1 : (k : Int) < m := by omega
      have k2 : (0 : Int) ≤ k := by omega
      have k3 : (k : Int) < 12 := by omega
      go_wp2_with fail
      refine (Around_any z0 _ _ B1.out B2.out (by omega) (by omega)).mono ?_
      rintro e wx ⟨rfl, rfl⟩
      obtain ⟨b0, b1⟩ := around_b z0 (show (1 : Int) ≤ 3 by omega)
      generalize around z0 3 = d at *
      clear f0
      obtain ⟨N, hN⟩ : ∃ N, T + d = N := ⟨_, rfl⟩
      have HNE := hid hN
      have hTN : T ≤ N ∧ N ≤ T + 2 := by omega
      clear hN
      go_wp2_with fail
      rw [HNE.out]
      go_loopw [8, 9] (fun av tv wr => ∃ (at0 : Nat) (T : Int) (L : List Flt) (a1 : Option Addr) (c1 : Nat), av = .int .i64 at0 ∧ tv = .int .i64 T ∧ 0 ≤ T ∧ T ≤ N ∧ at0 ≤ D.length ∧ W2.heap.size ≤ wr.heap.size ∧ Hd (PlainI L (D.drop at0) T D.length) ∧ Hd (Blk wr W1.heap.size #[.slice a1 L.length c1, .int .i64 (D.length : Int)] 28) ∧ Hd (Fls (fun b => W2.heap.size ≤ b ∧ (Value.slice ad D.length cd).ownBlock ≠ some b) wr (.slice a1 L.length c1) L) ∧ Hd (ArO W2.heap.size wr (.slice ad D.length cd) D) ∧ Hd (Wins (fun b => w.heap.size ≤ b ∧ b < W1.heap.size) wr (.slice at' ws.length ct) ws) ∧ Hd (Keeps (fun _ => False) w wr)) (fun _ t _ => (N - intOf t).toNat)
      case atStart => exact ⟨at0, T, L, a1, c1, rfl, rfl, ht0, hTN.1, hat, zq, PI, BK, F1, AO, HWS, HK⟩
      case round =>
        have ht2 : N ≤ 2 * k + 2 := by omega
        clear PI BK F1 AO HWS HK hTN ht1 ht0 hat zr zq HNE
        obtain ⟨at0, T, L, a1, c1, rfl, rfl, ht0, ht1, hat, zq, PI, BK, F1, AO, HWS, HK⟩ := hrel
        have zr : W1.heap.size < wr.heap.size := blk_lt BK.out
        have hLl : L.length ≤ 12 := by have := PI.out.2.1; rw [List.length_drop] at this; omega
        by_cases hTN : T < N
        · have AOL : Hd (∀ b, (Value.slice ad D.length cd).ownBlock = some b → b < wr.heap.size) := hid AO.out.lt
          have HS : Hd (stepK L (T + 1) = L.length) := hid (stepK_all (fun x hx => by have := (PI.out.1 x hx).1; omega))
          have u1 : IntKind.i64.wrap (T + 1) = T + 1 := IntWalk.i64_in _ (by omega)
          have HLB : Hd (∀ x ∈ L, ∀ c ∈ x.d, c < 256) := hid (fun x hx => (PI.out.1 x hx).2.2.2)
          have g1 : decide (T < N) = true := by simp; exact hTN
          have o_BK_0 : wr.cell? ⟨W1.heap.size, 0, none⟩ = some (.slice a1 L.length c1) := blk_cell BK.out 0
          have o_BK_1 : wr.cell? ⟨W1.heap.size, 1, none⟩ = some (.int .i64 (D.length : Int)) := blk_cell BK.out 1
          go_wp2_with fail
          refine (Step_any _ L _ (T + 1) _ (F1.out.mono (fun b h _ => h)) (by omega) (fun x hx => by have := (PI.out.1 x hx).2.2.1; omega)).mono ?_
          rintro e W3 ⟨sa1, sn1, sc1, so1, sm1, sp1, rfl, hsn, hsm, hsf, hsr, hk⟩
          rw [HS.out, List.drop_length] at hsn hsf
          rw [HS.out, List.take_length] at hsm hsr
          subst hsn hsm
          have SF := hid hsf; have SA := hid hsr; clear hsf hsr
          clear o_BK_0 o_BK_1
          have BK' : Hd (Blk W3 W1.heap.size #[.slice a1 L.length c1, .int .i64 (D.length : Int)] 28) := hid (blk_keep BK.out hk (fun h => h))
          have F1' : Hd (Fls (fun b => W2.heap.size ≤ b ∧ (Value.slice ad D.length cd).ownBlock ≠ some b) W3 (.slice a1 L.length c1) L) := hid (F1.out.keep hk (fun _ _ _ h => h))
          have AO' : Hd (ArO W2.heap.size W3 (.slice ad D.length cd) D) := hid (AO.out.keep hk (fun _ _ _ h => h))
          have HWS' : Hd (Wins (fun b => w.heap.size ≤ b ∧ b < W1.heap.size) W3 (.slice at' ws.length ct) ws) := hid (HWS.out.keep hk (fun _ _ _ h => h))
          clear BK F1 AO HWS
          have BK := BK'
          clear BK'
          have F1 := F1'
          clear F1'
          have AO := AO'
          clear AO'
          have HWS := HWS'
          clear HWS'
          have HK' : Hd (Keeps (fun _ => False) w W3) := hid (HK.out.trans hk)
          clear HK
          have HK := HK'
          clear HK'
          have z_W3 := hk.size
          clear hk
          go_upto_region 13 with fail
          generalize hW : World.alloc W3 _ = W4
          have KS : Hd (Keeps (fun _ => False) W3 W4) := hid (by rw [← hW]; exact (Keeps.alloc (Keeps.refl (fun _ => False) W3) _))
          have BK' : Hd (Blk W4 W1.heap.size #[.slice a1 L.length c1, .int .i64 (D.length : Int)] 28) := hid (by rw [← hW]; exact (blk_alloc BK.out _))
          have F1' : Hd (Fls (fun b => W2.heap.size ≤ b ∧ (Value.slice ad D.length cd).ownBlock ≠ some b) W4 (.slice a1 L.length c1) L) := hid (F1.out.keep KS.out (fun _ _ _ h => h))
          have AO' : Hd (ArO W2.heap.size W4 (.slice ad D.length cd) D) := hid (AO.out.keep KS.out (fun _ _ _ h => h))
          have HWS' : Hd (Wins (fun b => w.heap.size ≤ b ∧ b < W1.heap.size) W4 (.slice at' ws.length ct) ws) := hid (HWS.out.keep KS.out (fun _ _ _ h => h))
          have SF' : Hd (Fls (fun b => wr.heap.size ≤ b) W4 (.slice sa1 ([] : List Flt).length sc1) []) := hid (SF.out.keep KS.out (fun _ _ _ h => h))
          have SA' : Hd (Ars (fun b => wr.heap.size ≤ b) W4 (.slice so1 L.length sp1) L) := hid (SA.out.keep KS.out (fun _ _ _ h => h))
          have BX : Hd (Blk W4 W3.heap.size #[.slice sa1 ([] : List Flt).length sc1, .int .i64 (D.length : Int)] 28) := hid (by rw [← hW]; exact (blk_new _ _ _))
          clear BK F1 AO HWS SF SA
          have BK := BK'
          clear BK'
          have F1 := F1'
          clear F1'
          have AO := AO'
          clear AO'
          have HWS := HWS'
          clear HWS'
          have SF := SF'
          clear SF'
          have SA := SA'
          clear SA'
          have HK' : Hd (Keeps (fun _ => False) w W4) := hid (HK.out.trans KS.out)
          clear HK
          have HK := HK'
          clear HK'
          have z_W4 : W3.heap.size + 1 ≤ W4.heap.size := by rw [← hW]; simp
          clear hW KS
          obtain ⟨ys, ho, hge, hc⟩ := AO.out
          obtain ⟨a2, c2, hcut, hr2⟩ := run_cut_from (P := Try.prog) (t := 29) Try.underlying29 hi hz1 ho.row (lo := (at0 : Int)) at0 rfl hat
          have SD : Hd (Ars (fun _ => True) W4 (.slice a2 (D.length - at0) c2) (D.drop at0)) := hid ⟨ys.drop (at0 * 3), by
              have e2 : (ys.drop (at0 * 3)).take ((D.length - at0) * 3) = ys.drop (at0 * 3) := List.take_of_length_le (by rw [List.length_drop, ho.1.1]; omega)
              have h := hr2
              rw [e2] at h
              rw [List.length_drop]
              exact h.mono (fun _ _ _ => trivial), fun i y hi => ((arc_drop hc at0).2 i y hi).mono (fun _ _ _ => trivial)⟩
          clear ho hge hc hr2
          go_wp2_with fail
          refine (SameArr_any _ _ _ _ L (D.drop at0) _ SA.out SD.out PI.out.2 (by omega) HLB.out).mono ?_
          rintro e W5 ⟨rfl, hd⟩
          have hk := drawn_keeps (fun _ => False) hd
          clear hd hcut SD
          have BK' : Hd (Blk W5 W1.heap.size #[.slice a1 L.length c1, .int .i64 (D.length : Int)] 28) := hid (blk_keep BK.out hk (fun h => h))
          have F1' : Hd (Fls (fun b => W2.heap.size ≤ b ∧ (Value.slice ad D.length cd).ownBlock ≠ some b) W5 (.slice a1 L.length c1) L) := hid (F1.out.keep hk (fun _ _ _ h => h))
          have AO' : Hd (ArO W2.heap.size W5 (.slice ad D.length cd) D) := hid (AO.out.keep hk (fun _ _ _ h => h))
          have HWS' : Hd (Wins (fun b => w.heap.size ≤ b ∧ b < W1.heap.size) W5 (.slice at' ws.length ct) ws) := hid (HWS.out.keep hk (fun _ _ _ h => h))
          have SF' : Hd (Fls (fun b => wr.heap.size ≤ b) W5 (.slice sa1 ([] : List Flt).length sc1) []) := hid (SF.out.keep hk (fun _ _ _ h => h))
          have SA' : Hd (Ars (fun b => wr.heap.size ≤ b) W5 (.slice so1 L.length sp1) L) := hid (SA.out.keep hk (fun _ _ _ h => h))
          have BX' : Hd (Blk W5 W3.heap.size #[.slice sa1 ([] : List Flt).length sc1, .int .i64 (D.length : Int)] 28) := hid (blk_keep BX.out hk (fun h => h))
          clear BK F1 AO HWS SF SA BX
          have BK := BK'
          clear BK'
          have F1 := F1'
          clear F1'
          have AO := AO'
          clear AO'
          have HWS := HWS'
          clear HWS'
          have SF := SF'
          clear SF'
          have SA := SA'
          clear SA'
          have BX := BX'
          clear BX'
          have HK' : Hd (Keeps (fun _ => False) w W5) := hid (HK.out.trans hk)
          clear HK
          have HK := HK'
          clear HK'
          have z_W5 := hk.size
          clear hk
          have o_BK_0 : W5.cell? ⟨W1.heap.size, 0, none⟩ = some (.slice a1 L.length c1) := blk_cell BK.out 0
          have o_BK_1 : W5.cell? ⟨W1.heap.size, 1, none⟩ = some (.int .i64 (D.length : Int)) := blk_cell BK.out 1
          have f_BK_0 : W5.frozen? ⟨W1.heap.size, 0, none⟩ = false := blk_free BK.out 0
          have f_BK_1 : W5.frozen? ⟨W1.heap.size, 1, none⟩ = false := blk_free BK.out 1
          have o_BX_0 : W5.cell? ⟨W3.heap.size, 0, none⟩ = some (.slice sa1 ([] : List Flt).length sc1) := blk_cell BX.out 0
          have o_BX_1 : W5.cell? ⟨W3.heap.size, 1, none⟩ = some (.int .i64 (D.length : Int)) := blk_cell BX.out 1
          clear o_BK_0 o_BK_1 f_BK_0 f_BK_1 o_BX_0 o_BX_1
          have o_BK_0 : W5.cell? ⟨W1.heap.size, 0, none⟩ = some (.slice a1 L.length c1) := blk_cell BK.out 0
          have o_BK_1 : W5.cell? ⟨W1.heap.size, 1, none⟩ = some (.int .i64 (D.length : Int)) := blk_cell BK.out 1
          have f_BK_0 : W5.frozen? ⟨W1.heap.size, 0, none⟩ = false := blk_free BK.out 0
          have f_BK_1 : W5.frozen? ⟨W1.heap.size, 1, none⟩ = false := blk_free BK.out 1
          have o_BX_0 : W5.cell? ⟨W3.heap.size, 0, none⟩ = some (.slice sa1 ([] : List Flt).length sc1) := blk_cell BX.out 0
          have o_BX_1 : W5.cell? ⟨W3.heap.size, 1, none⟩ = some (.int .i64 (D.length : Int)) := blk_cell BX.out 1
          have BKX : Hd (Blk ((W5.setCell ⟨W1.heap.size, 0, none⟩ (.slice sa1 ([] : List Flt).length sc1)).setCell ⟨W1.heap.size, 1, none⟩ (.int .i64 (D.length : Int))) W1.heap.size #[.slice sa1 ([] : List Flt).length sc1, .int .i64 (D.length : Int)] 28) := hid (by have h := blk_set (blk_set BK.out 0 (.slice sa1 ([] : List Flt).length sc1)) 1 (.int .i64 (D.length : Int)); simp only [List.setIfInBounds_toArray, List.set_cons_zero, List.set_cons_succ] at h; exact h)
          have KST : Hd (Keeps (fun b => b = W1.heap.size) W5 ((W5.setCell ⟨W1.heap.size, 0, none⟩ (.slice sa1 ([] : List Flt).length sc1)).setCell ⟨W1.heap.size, 1, none⟩ (.int .i64 (D.length : Int)))) := hid (keq (keq (Keeps.refl _ _) 0 _) 1 _)
          have AOX := hid (AO.out.keep KST.out (fun b _ h1 h2 => by omega))
          have HWSX : Hd (Wins (fun b => w.heap.size ≤ b ∧ b < W1.heap.size) ((W5.setCell ⟨W1.heap.size, 0, none⟩ (.slice sa1 ([] : List Flt).length sc1)).setCell ⟨W1.heap.size, 1, none⟩ (.int .i64 (D.length : Int))) (.slice at' ws.length ct) ws) := hid (HWS.out.keep KST.out (fun b h1 h2 h3 => by omega))
          have hZ : W2.heap.size ≤ (((W5.setCell ⟨W1.heap.size, 0, none⟩ (.slice sa1 ([] : List Flt).length sc1)).setCell ⟨W1.heap.size, 1, none⟩ (.int .i64 (D.length : Int)))).heap.size := Nat.le_trans (by omega) KST.out.size
          have HKX : Hd (Keeps (fun _ => False) w ((W5.setCell ⟨W1.heap.size, 0, none⟩ (.slice sa1 ([] : List Flt).length sc1)).setCell ⟨W1.heap.size, 1, none⟩ (.int .i64 (D.length : Int)))) := hid (HK.out.trans' KST.out (fun i hi h => by omega))
          have SFX : Hd (Fls (fun b => W2.heap.size ≤ b ∧ (Value.slice ad D.length cd).ownBlock ≠ some b) ((W5.setCell ⟨W1.heap.size, 0, none⟩ (.slice sa1 ([] : List Flt).length sc1)).setCell ⟨W1.heap.size, 1, none⟩ (.int .i64 (D.length : Int))) (.slice sa1 ([] : List Flt).length sc1) []) := hid ((SF.out.mono (K' := fun b => W2.heap.size ≤ b ∧ (Value.slice ad D.length cd).ownBlock ≠ some b) (fun b _ h => ⟨by omega, fun e => by have := AOL.out b e; omega⟩)).keep KST.out (fun b _ h1 h2 => by omega))
          clear KST
          go_wp2
          go_roundw
          case rel => exact ⟨D.length, T + 1, [], sa1, sc1, rfl, by go_num, by omega, by omega, Nat.le_refl _, hZ, hid (plain_nil D (T + 1) _), BKX, SFX, AOX, HWSX, HKX⟩
          case measure => simp [intOf]; omega
        · obtain rfl : T = N := by omega
          have g1 : decide (T < T) = false := by simp
          have AOL : Hd (∀ b, (Value.slice ad D.length cd).ownBlock = some b → b < wr.heap.size) := hid AO.out.lt
          have f1 : wr.cell? ⟨b, o + k * 2 + 1, none⟩ = some (.int .i64 z1) := keep_cell HK.out (fun h => h) Y1.out
          go_wp2_with fail
          refine (Message_any z1 _ B3.out B4.out).mono ?_
          rintro e W3 ⟨fr, tt, da, dn, dc, data, rfl, rfl, hdl, hd8, hsl, hfr, htt, hk⟩
          have SD := hid hsl; have HD8 := hid hd8; clear hsl hd8
          have BK' : Hd (Blk W3 W1.heap.size #[.slice a1 L.length c1, .int .i64 (D.length : Int)] 28) := hid (blk_keep BK.out hk (fun h => h))
          have F1' : Hd (Fls (fun b => W2.heap.size ≤ b ∧ (Value.slice ad D.length cd).ownBlock ≠ some b) W3 (.slice a1 L.length c1) L) := hid (F1.out.keep hk (fun _ _ _ h => h))
          have AO' : Hd (ArO W2.heap.size W3 (.slice ad D.length cd) D) := hid (AO.out.keep hk (fun _ _ _ h => h))
          have HWS' : Hd (Wins (fun b => w.heap.size ≤ b ∧ b < W1.heap.size) W3 (.slice at' ws.length ct) ws) := hid (HWS.out.keep hk (fun _ _ _ h => h))
          clear BK F1 AO HWS
          have BK := BK'
          clear BK'
          have F1 := F1'
          clear F1'
          have AO := AO'
          clear AO'
          have HWS := HWS'
          clear HWS'
          have HK' : Hd (Keeps (fun _ => False) w W3) := hid (HK.out.trans hk)
          clear HK
          have HK := HK'
          clear HK'
          have z_W3 := hk.size
          clear hk
          clear f1
          go_upto_region 18 with fail
          generalize hW : World.alloc W3 _ = W4
          have KS : Hd (Keeps (fun _ => False) W3 W4) := hid (by rw [← hW]; exact (Keeps.alloc (Keeps.refl (fun _ => False) W3) _))
          have BK' : Hd (Blk W4 W1.heap.size #[.slice a1 L.length c1, .int .i64 (D.length : Int)] 28) := hid (by rw [← hW]; exact (blk_alloc BK.out _))
          have F1' : Hd (Fls (fun b => W2.heap.size ≤ b ∧ (Value.slice ad D.length cd).ownBlock ≠ some b) W4 (.slice a1 L.length c1) L) := hid (F1.out.keep KS.out (fun _ _ _ h => h))
          have AO' : Hd (ArO W2.heap.size W4 (.slice ad D.length cd) D) := hid (AO.out.keep KS.out (fun _ _ _ h => h))
          have HWS' : Hd (Wins (fun b => w.heap.size ≤ b ∧ b < W1.heap.size) W4 (.slice at' ws.length ct) ws) := hid (HWS.out.keep KS.out (fun _ _ _ h => h))
          have SD' : Hd (Sl (fun b => wr.heap.size ≤ b) W4 (.slice da data.length dc) (u8s data)) := hid (SD.out.keep KS.out (fun _ _ _ h => h))
          have BM : Hd (Blk W4 W3.heap.size #[.int .i64 fr, .int .i64 tt, .slice da data.length dc] 37) := hid (by rw [← hW]; exact (blk_new _ _ _))
          clear BK F1 AO HWS SD
          have BK := BK'
          clear BK'
          have F1 := F1'
          clear F1'
          have AO := AO'
          clear AO'
          have HWS := HWS'
          clear HWS'
          have SD := SD'
          clear SD'
          have HK' : Hd (Keeps (fun _ => False) w W4) := hid (HK.out.trans KS.out)
          clear HK
          have HK := HK'
          clear HK'
          have z_W4 : W3.heap.size + 1 ≤ W4.heap.size := by rw [← hW]; simp
          clear hW KS
          obtain ⟨R, hR⟩ : ∃ R, sendL L D.length ws [] T fr tt data = R := ⟨_, rfl⟩
          have HR := hid hR
          have hcase := plain_send (ws := ws) (fr := fr) (tt := tt) (data := data) PI.out (by omega) HD8.out
          rw [hR] at hcase
          have HCA := hid hcase
          clear hcase hR
          have o_BK_0 : W4.cell? ⟨W1.heap.size, 0, none⟩ = some (.slice a1 L.length c1) := blk_cell BK.out 0
          have o_BK_1 : W4.cell? ⟨W1.heap.size, 1, none⟩ = some (.int .i64 (D.length : Int)) := blk_cell BK.out 1
          have o_BM_0 : W4.cell? ⟨W3.heap.size, 0, none⟩ = some (.int .i64 fr) := blk_cell BM.out 0
          have o_BM_1 : W4.cell? ⟨W3.heap.size, 1, none⟩ = some (.int .i64 tt) := blk_cell BM.out 1
          have o_BM_2 : W4.cell? ⟨W3.heap.size, 2, none⟩ = some (.slice da data.length dc) := blk_cell BM.out 2
          go_wp2_with fail
          refine (Send_any _ _ (.slice none 0 0) L ws [] D.length T fr tt da dc data W4 (F1.out.mono (fun b h _ => h)) (HWS.out.mono (fun b h _ => h)) ⟨[], ⟨rfl, .inl ⟨rfl, rfl⟩⟩, fun i x hx => by simp at hx⟩ (SD.out.mono (fun b h _ => h)) HD8.out (by omega) (fun x hx => by have := (PI.out.1 x hx).2.2.1; omega) (by simp) (by simp) (by omega) (by omega) (by omega) (by omega) (by omega)).mono ?_
          rw [HR.out]
          rintro e W5 ⟨a3, n3, c3, rfl, rfl, ho3, hk⟩
          have F3 := hid (FlO.fls ho3); clear ho3
          clear o_BK_0 o_BK_1 o_BM_0 o_BM_1 o_BM_2
          have BK' : Hd (Blk W5 W1.heap.size #[.slice a1 L.length c1, .int .i64 (D.length : Int)] 28) := hid (blk_keep BK.out hk (fun h => h))
          have F1' : Hd (Fls (fun b => W2.heap.size ≤ b ∧ (Value.slice ad D.length cd).ownBlock ≠ some b) W5 (.slice a1 L.length c1) L) := hid (F1.out.keep hk (fun _ _ _ h => h))
          have AO' : Hd (ArO W2.heap.size W5 (.slice ad D.length cd) D) := hid (AO.out.keep hk (fun _ _ _ h => h))
          have HWS' : Hd (Wins (fun b => w.heap.size ≤ b ∧ b < W1.heap.size) W5 (.slice at' ws.length ct) ws) := hid (HWS.out.keep hk (fun _ _ _ h => h))
          have SD' : Hd (Sl (fun b => wr.heap.size ≤ b) W5 (.slice da data.length dc) (u8s data)) := hid (SD.out.keep hk (fun _ _ _ h => h))
          have BM' : Hd (Blk W5 W3.heap.size #[.int .i64 fr, .int .i64 tt, .slice da data.length dc] 37) := hid (blk_keep BM.out hk (fun h => h))
          clear BK F1 AO HWS SD BM
          have BK := BK'
          clear BK'
          have F1 := F1'
          clear F1'
          have AO := AO'
          clear AO'
          have HWS := HWS'
          clear HWS'
          have SD := SD'
          clear SD'
          have BM := BM'
          clear BM'
          have HK' : Hd (Keeps (fun _ => False) w W5) := hid (HK.out.trans hk)
          clear HK
          have HK := HK'
          clear HK'
          have z_W5 := hk.size
          clear hk
          go_upto_region 19 with fail
          generalize hW : World.alloc W5 _ = W6
          have KS : Hd (Keeps (fun _ => False) W5 W6) := hid (by rw [← hW]; exact (Keeps.alloc (Keeps.refl (fun _ => False) W5) _))
          have BK' : Hd (Blk W6 W1.heap.size #[.slice a1 L.length c1, .int .i64 (D.length : Int)] 28) := hid (by rw [← hW]; exact (blk_alloc BK.out _))
          have F1' : Hd (Fls (fun b => W2.heap.size ≤ b ∧ (Value.slice ad D.length cd).ownBlock ≠ some b) W6 (.slice a1 L.length c1) L) := hid (F1.out.keep KS.out (fun _ _ _ h => h))
          have AO' : Hd (ArO W2.heap.size W6 (.slice ad D.length cd) D) := hid (AO.out.keep KS.out (fun _ _ _ h => h))
          have HWS' : Hd (Wins (fun b => w.heap.size ≤ b ∧ b < W1.heap.size) W6 (.slice at' ws.length ct) ws) := hid (HWS.out.keep KS.out (fun _ _ _ h => h))
          have SD' : Hd (Sl (fun b => wr.heap.size ≤ b) W6 (.slice da data.length dc) (u8s data)) := hid (SD.out.keep KS.out (fun _ _ _ h => h))
          have BM' : Hd (Blk W6 W3.heap.size #[.int .i64 fr, .int .i64 tt, .slice da data.length dc] 37) := hid (by rw [← hW]; exact (blk_alloc BM.out _))
          have F3' : Hd (Fls (fun b => W4.heap.size ≤ b) W6 (.slice a3 R.1.length c3) R.1) := hid (F3.out.keep KS.out (fun _ _ _ h => h))
          have BN : Hd (Blk W6 W5.heap.size #[.slice a3 R.1.length c3, .int .i64 R.2.1] 28) := hid (by rw [← hW]; exact (blk_new _ _ _))
          clear BK F1 AO HWS SD BM F3
          have BK := BK'
          clear BK'
          have F1 := F1'
          clear F1'
          have AO := AO'
          clear AO'
          have HWS := HWS'
          clear HWS'
          have SD := SD'
          clear SD'
          have BM := BM'
          clear BM'
          have F3 := F3'
          clear F3'
          have HK' : Hd (Keeps (fun _ => False) w W6) := hid (HK.out.trans KS.out)
          clear HK
          have HK := HK'
          clear HK'
          have z_W6 : W5.heap.size + 1 ≤ W6.heap.size := by rw [← hW]; simp
          clear hW KS
          clear F1
          rcases HCA.out with hc | ⟨hc, hpi⟩
          · clear HCA HR
            obtain rfl : R = (L, (D.length : Int), false) := hc
            have BN2 : Hd (Blk W6 W5.heap.size #[.slice a3 L.length c3, .int .i64 (D.length : Int)] 28) := BN
            clear BN
            have BN := BN2
            clear BN2
            have F32 : Hd (Fls (fun b => W4.heap.size ≤ b) W6 (.slice a3 L.length c3) L) := F3
            clear F3
            have F3 := F32
            clear F32
            have o_BK_0 : W6.cell? ⟨W1.heap.size, 0, none⟩ = some (.slice a1 L.length c1) := blk_cell BK.out 0
            have o_BK_1 : W6.cell? ⟨W1.heap.size, 1, none⟩ = some (.int .i64 (D.length : Int)) := blk_cell BK.out 1
            have f_BK_0 : W6.frozen? ⟨W1.heap.size, 0, none⟩ = false := blk_free BK.out 0
            have f_BK_1 : W6.frozen? ⟨W1.heap.size, 1, none⟩ = false := blk_free BK.out 1
            have o_BN_0 : W6.cell? ⟨W5.heap.size, 0, none⟩ = some (.slice a3 L.length c3) := blk_cell BN.out 0
            have o_BN_1 : W6.cell? ⟨W5.heap.size, 1, none⟩ = some (.int .i64 (D.length : Int)) := blk_cell BN.out 1
            have BKX : Hd (Blk ((W6.setCell ⟨W1.heap.size, 0, none⟩ (.slice a3 L.length c3)).setCell ⟨W1.heap.size, 1, none⟩ (.int .i64 (D.length : Int))) W1.heap.size #[.slice a3 L.length c3, .int .i64 (D.length : Int)] 28) := hid (by have h := blk_set (blk_set BK.out 0 (.slice a3 L.length c3)) 1 (.int .i64 (D.length : Int)); simp only [List.setIfInBounds_toArray, List.set_cons_zero, List.set_cons_succ] at h; exact h)
            have KST : Hd (Keeps (fun b => b = W1.heap.size) W6 ((W6.setCell ⟨W1.heap.size, 0, none⟩ (.slice a3 L.length c3)).setCell ⟨W1.heap.size, 1, none⟩ (.int .i64 (D.length : Int)))) := hid (keq (keq (Keeps.refl _ _) 0 _) 1 _)
            have AOX := hid (AO.out.keep KST.out (fun b _ h1 h2 => by omega))
            have HWSX : Hd (Wins (fun b => w.heap.size ≤ b ∧ b < W1.heap.size) ((W6.setCell ⟨W1.heap.size, 0, none⟩ (.slice a3 L.length c3)).setCell ⟨W1.heap.size, 1, none⟩ (.int .i64 (D.length : Int))) (.slice at' ws.length ct) ws) := hid (HWS.out.keep KST.out (fun b h1 h2 h3 => by omega))
            have hZ : W2.heap.size ≤ (((W6.setCell ⟨W1.heap.size, 0, none⟩ (.slice a3 L.length c3)).setCell ⟨W1.heap.size, 1, none⟩ (.int .i64 (D.length : Int)))).heap.size := Nat.le_trans (by omega) KST.out.size
            have HKX : Hd (Keeps (fun _ => False) w ((W6.setCell ⟨W1.heap.size, 0, none⟩ (.slice a3 L.length c3)).setCell ⟨W1.heap.size, 1, none⟩ (.int .i64 (D.length : Int)))) := hid (HK.out.trans' KST.out (fun i hi h => by omega))
            have F3X : Hd (Fls (fun b => W2.heap.size ≤ b ∧ (Value.slice ad D.length cd).ownBlock ≠ some b) ((W6.setCell ⟨W1.heap.size, 0, none⟩ (.slice a3 L.length c3)).setCell ⟨W1.heap.size, 1, none⟩ (.int .i64 (D.length : Int))) (.slice a3 L.length c3) L) := hid ((F3.out.mono (K' := fun b => W2.heap.size ≤ b ∧ (Value.slice ad D.length cd).ownBlock ≠ some b) (fun b _ h => ⟨by omega, fun e => by have := AOL.out b e; omega⟩)).keep KST.out (fun b _ h1 h2 => by omega))
            clear KST
            go_wp2
            go_roundw
            case rel => exact ⟨k + 1, at0, T, L, D, ad, cd, a3, c3, rfl, rfl, rfl, by go_num, by omega, by omega, by omega, by omega, hat, by omega, hZ, PI, BKX, F3X, AOX, HWSX, HKX⟩
            case measure => simp [intOf]; omega
          · clear HCA HR
            obtain rfl : R = ((L ++ [⟨T + 1, D.length, fr, tt, data⟩]), (D.length : Int) + 1, true) := hc
            obtain ⟨L1, hL1⟩ : ∃ L1, (L ++ [⟨T + 1, D.length, fr, tt, data⟩]) = L1 := ⟨_, rfl⟩
            have HPI := hid (hpi D at0 hat rfl)
            clear hpi
            rw [hL1] at HPI
            have hl1 : L1.length ≤ 13 := by rw [← hL1, List.length_append]; simp; omega
            have BN2 : Hd (Blk W6 W5.heap.size #[.slice a3 L1.length c3, .int .i64 ((D.length : Int) + 1)] 28) := hid (by rw [← hL1]; exact BN.out)
            clear BN
            have BN := BN2
            clear BN2
            have F32 : Hd (Fls (fun b => W4.heap.size ≤ b) W6 (.slice a3 L1.length c3) L1) := hid (by rw [← hL1]; exact F3.out)
            clear F3
            have F3 := F32
            clear F32
            simp only [hL1]
            clear hL1
            obtain ⟨ys, hys, hge, hyc⟩ := AO.out
            have HYS := hid hys; have HGE := hid hge; have HYC := hid hyc; clear hys hge hyc
            have KV := hid (keeps_alloc (fun _ => False) W6 (.cells #[.int .i64 fr, .int .i64 tt, .slice da data.length dc] 37))
            have o_BM_0 : W6.cell? ⟨W3.heap.size, 0, none⟩ = some (.int .i64 fr) := blk_cell BM.out 0
            have o_BM_1 : W6.cell? ⟨W3.heap.size, 1, none⟩ = some (.int .i64 tt) := blk_cell BM.out 1
            have o_BM_2 : W6.cell? ⟨W3.heap.size, 2, none⟩ = some (.slice da data.length dc) := blk_cell BM.out 2
            go_wp2_with (at_builtin; refine wpList_append_row rfl (.tmp 74) (.tmp 76) 29 rfl 37 i0 zz 3 40 Try.underlying29 hi hz0 hz1 hz2 hz3 (by decide) _ (fun _ => True) (.slice ad D.length cd) _ D.length ys rfl (HYS.out.alloc _) 1 [.int .i64 fr, .int .i64 tt, .slice da data.length dc] rfl (by exact lit_row _ _ _ 1 3 rfl (by decide)) (by intro u hu; simp at hu; rcases hu with rfl | rfl | rfl <;> rfl) (by simp [maxLen]; omega) (by omega) ?_)
            clear o_BM_0 o_BM_1 o_BM_2
            intro a7 c7 w7 hown hk7; try intro _
            have AO7 : Hd (ArO W2.heap.size w7 (.slice a7 (D.length + 1) c7) (D ++ [(⟨0, 0, fr, tt, data⟩ : Flt)])) := hid (aro_app (x := ⟨0, 0, fr, tt, data⟩) HYS.out HGE.out HYC.out KV.out (SD.out.mono (fun b _ h => ⟨by omega, fun e => by have := AOL.out b e; omega⟩)) (by (try simp); omega) (hown.mono (fun b _ h => h.imp id (fun h => by first | exact h | (rw [World.size_alloc]; exact h) | (simp at h ⊢; exact h)))) hk7)
            have K7 : Hd (Keeps (fun b => (Value.slice ad D.length cd).ownBlock = some b) W6 w7) := hid ((KV.out.mono (fun _ _ h => h.elim)).trans hk7)
            have hgo : ∀ b, (Value.slice ad D.length cd).ownBlock = some b → W2.heap.size ≤ b := HGE.out
            have F37 : Hd (Fls (fun b => W2.heap.size ≤ b ∧ (Value.slice a7 (D.length + 1) c7).ownBlock ≠ some b) w7 (.slice a3 L1.length c3) L1) := hid ((F3.out.mono (K' := fun b => (W2.heap.size ≤ b ∧ (Value.slice a7 (D.length + 1) c7).ownBlock ≠ some b) ∧ (Value.slice ad D.length cd).ownBlock ≠ some b) (fun b hb h => ⟨⟨by omega, fun e => by
                rcases hown.2 b e with h' | h'
                · have := AOL.out b h'; omega
                · (try simp at h'); omega⟩, fun e => by have := AOL.out b e; omega⟩)).keep K7.out (fun b _ h1 h2 => h1.2 h2) |>.mono (fun b _ h => h.1))
            have BK7 := hid (blk_keep BK.out K7.out (fun e => by have := hgo _ e; omega))
            have BN7 := hid (blk_keep BN.out K7.out (fun e => by have := AOL.out _ e; omega))
            have HWS7 : Hd (Wins (fun b => w.heap.size ≤ b ∧ b < W1.heap.size) w7 (.slice at' ws.length ct) ws) := hid (HWS.out.keep K7.out (fun b _ h e => by have := hgo b e; omega))
            have HK7 : Hd (Keeps (fun _ => False) w w7) := hid (HK.out.trans' K7.out (fun i hi e => by have := hgo i e; omega))
            have z7 := K7.out.size
            clear hown hk7 K7 KV AO BK BN F3 HWS HK HYS HYC HGE
            have AO := AO7; have BK := BK7; have BN := BN7; have F3 := F37; have HWS := HWS7; have HK := HK7
            clear AO7 BK7 BN7 F37 HWS7 HK7
            have o_BK_0 : w7.cell? ⟨W1.heap.size, 0, none⟩ = some (.slice a1 L.length c1) := blk_cell BK.out 0
            have o_BK_1 : w7.cell? ⟨W1.heap.size, 1, none⟩ = some (.int .i64 (D.length : Int)) := blk_cell BK.out 1
            have f_BK_0 : w7.frozen? ⟨W1.heap.size, 0, none⟩ = false := blk_free BK.out 0
            have f_BK_1 : w7.frozen? ⟨W1.heap.size, 1, none⟩ = false := blk_free BK.out 1
            have o_BN_0 : w7.cell? ⟨W5.heap.size, 0, none⟩ = some (.slice a3 L1.length c3) := blk_cell BN.out 0
            have o_BN_1 : w7.cell? ⟨W5.heap.size, 1, none⟩ = some (.int .i64 ((D.length : Int) + 1)) := blk_cell BN.out 1
            have BKX : Hd (Blk ((w7.setCell ⟨W1.heap.size, 0, none⟩ (.slice a3 L1.length c3)).setCell ⟨W1.heap.size, 1, none⟩ (.int .i64 ((D.length : Int) + 1))) W1.heap.size #[.slice a3 L1.length c3, .int .i64 ((D.length : Int) + 1)] 28) := hid (by have h := blk_set (blk_set BK.out 0 (.slice a3 L1.length c3)) 1 (.int .i64 ((D.length : Int) + 1)); simp only [List.setIfInBounds_toArray, List.set_cons_zero, List.set_cons_succ] at h; exact h)
            have KST : Hd (Keeps (fun b => b = W1.heap.size) w7 ((w7.setCell ⟨W1.heap.size, 0, none⟩ (.slice a3 L1.length c3)).setCell ⟨W1.heap.size, 1, none⟩ (.int .i64 ((D.length : Int) + 1)))) := hid (keq (keq (Keeps.refl _ _) 0 _) 1 _)
            have AOX := hid (AO.out.keep KST.out (fun b _ h1 h2 => by omega))
            have F3X := hid (F3.out.keep KST.out (fun b _ h1 h2 => by omega))
            have HWSX : Hd (Wins (fun b => w.heap.size ≤ b ∧ b < W1.heap.size) ((w7.setCell ⟨W1.heap.size, 0, none⟩ (.slice a3 L1.length c3)).setCell ⟨W1.heap.size, 1, none⟩ (.int .i64 ((D.length : Int) + 1))) (.slice at' ws.length ct) ws) := hid (HWS.out.keep KST.out (fun b h1 h2 h3 => by omega))
            have hZ : W2.heap.size ≤ (((w7.setCell ⟨W1.heap.size, 0, none⟩ (.slice a3 L1.length c3)).setCell ⟨W1.heap.size, 1, none⟩ (.int .i64 ((D.length : Int) + 1)))).heap.size := Nat.le_trans (by omega) KST.out.size
            have HKX : Hd (Keeps (fun _ => False) w ((w7.setCell ⟨W1.heap.size, 0, none⟩ (.slice a3 L1.length c3)).setCell ⟨W1.heap.size, 1, none⟩ (.int .i64 ((D.length : Int) + 1)))) := hid (HK.out.trans' KST.out (fun i hi h => by omega))
            have hdl1 : ((D ++ [(⟨0, 0, fr, tt, data⟩ : Flt)])).length = D.length + 1 := by simp
            clear KST
            go_wp2
            go_roundw
            case rel => exact ⟨k + 1, at0, T, L1, (D ++ [(⟨0, 0, fr, tt, data⟩ : Flt)]), a7, c7, a3, c3, by rw [hdl1], rfl, rfl, by go_num, by omega, by omega, by omega, by omega, by rw [hdl1]; omega, by rw [hdl1]; omega, hZ, by rw [hdl1]; exact HPI, by rw [hdl1]; exact BKX, by rw [hdl1]; exact F3X, by rw [hdl1]; exact AOX, HWSX, HKX⟩
            case measure => simp [intOf]; omega
    · rcases Nat.lt_or_ge k m with h1 | h1
      · obtain rfl : k = 12 := by omega
        have k1 : ((12 : Nat) : Int) < m := by omega
        have k2 : (12 : Int) < m := by omega
        clear hkm
        have hLl : L.length ≤ 12 := by have := PI.out.2.1; rw [List.length_drop] at this; omega
        have HS : Hd (stepK L (T + 1) = L.length) := hid (stepK_all (fun x hx => by have := (PI.out.1 x hx).1; omega))
        have u1 : IntKind.i64.wrap (T + 1) = T + 1 := IntWalk.i64_in _ (by omega)
        have HLB : Hd (∀ x ∈ L, ∀ c ∈ x.d, c < 256) := hid (fun x hx => (PI.out.1 x hx).2.2.2)
        have o_BK_0 : wr.cell? ⟨W1.heap.size, 0, none⟩ = some (.slice a1 L.length c1) := blk_cell BK.out 0
        have o_BK_1 : wr.cell? ⟨W1.heap.size, 1, none⟩ = some (.int .i64 (D.length : Int)) := blk_cell BK.out 1
        go_wp2_with fail
        refine (Step_any _ L _ (T + 1) _ (F1.out.mono (fun b h _ => h)) (by omega) (fun x hx => by have := (PI.out.1 x hx).2.2.1; omega)).mono ?_
        rintro e W3 ⟨sa2, sn2, sc2, so2, sm2, sp2, rfl, hsn, hsm, hsf, hsr, hk⟩
        rw [HS.out, List.drop_length] at hsn hsf
        rw [HS.out, List.take_length] at hsm hsr
        subst hsn hsm
        have SF := hid hsf; have SA := hid hsr; clear hsf hsr
        clear o_BK_0 o_BK_1
        have BK' : Hd (Blk W3 W1.heap.size #[.slice a1 L.length c1, .int .i64 (D.length : Int)] 28) := hid (blk_keep BK.out hk (fun h => h))
        have F1' : Hd (Fls (fun b => W2.heap.size ≤ b ∧ (Value.slice ad D.length cd).ownBlock ≠ some b) W3 (.slice a1 L.length c1) L) := hid (F1.out.keep hk (fun _ _ _ h => h))
        have AO' : Hd (ArO W2.heap.size W3 (.slice ad D.length cd) D) := hid (AO.out.keep hk (fun _ _ _ h => h))
        have HWS' : Hd (Wins (fun b => w.heap.size ≤ b ∧ b < W1.heap.size) W3 (.slice at' ws.length ct) ws) := hid (HWS.out.keep hk (fun _ _ _ h => h))
        clear BK F1 AO HWS
        have BK := BK'
        clear BK'
        have F1 := F1'
        clear F1'
        have AO := AO'
        clear AO'
        have HWS := HWS'
        clear HWS'
        have HK' : Hd (Keeps (fun _ => False) w W3) := hid (HK.out.trans hk)
        clear HK
        have HK := HK'
        clear HK'
        have z_W3 := hk.size
        clear hk
        go_upto_region 23 with fail
        generalize hW : World.alloc W3 _ = W4
        have KS : Hd (Keeps (fun _ => False) W3 W4) := hid (by rw [← hW]; exact (Keeps.alloc (Keeps.refl (fun _ => False) W3) _))
        have BK' : Hd (Blk W4 W1.heap.size #[.slice a1 L.length c1, .int .i64 (D.length : Int)] 28) := hid (by rw [← hW]; exact (blk_alloc BK.out _))
        have F1' : Hd (Fls (fun b => W2.heap.size ≤ b ∧ (Value.slice ad D.length cd).ownBlock ≠ some b) W4 (.slice a1 L.length c1) L) := hid (F1.out.keep KS.out (fun _ _ _ h => h))
        have AO' : Hd (ArO W2.heap.size W4 (.slice ad D.length cd) D) := hid (AO.out.keep KS.out (fun _ _ _ h => h))
        have HWS' : Hd (Wins (fun b => w.heap.size ≤ b ∧ b < W1.heap.size) W4 (.slice at' ws.length ct) ws) := hid (HWS.out.keep KS.out (fun _ _ _ h => h))
        have SF' : Hd (Fls (fun b => wr.heap.size ≤ b) W4 (.slice sa2 ([] : List Flt).length sc2) []) := hid (SF.out.keep KS.out (fun _ _ _ h => h))
        have SA' : Hd (Ars (fun b => wr.heap.size ≤ b) W4 (.slice so2 L.length sp2) L) := hid (SA.out.keep KS.out (fun _ _ _ h => h))
        have BX : Hd (Blk W4 W3.heap.size #[.slice sa2 ([] : List Flt).length sc2, .int .i64 (D.length : Int)] 28) := hid (by rw [← hW]; exact (blk_new _ _ _))
        clear BK F1 AO HWS SF SA
        have BK := BK'
        clear BK'
        have F1 := F1'
        clear F1'
        have AO := AO'
        clear AO'
        have HWS := HWS'
        clear HWS'
        have SF := SF'
        clear SF'
        have SA := SA'
        clear SA'
        have HK' : Hd (Keeps (fun _ => False) w W4) := hid (HK.out.trans KS.out)
        clear HK
        have HK := HK'
        clear HK'
        have z_W4 : W3.heap.size + 1 ≤ W4.heap.size := by rw [← hW]; simp
        clear hW KS
        obtain ⟨ys, ho, hge, hc⟩ := AO.out
        obtain ⟨a2, c2, hcut, hr2⟩ := run_cut_from (P := Try.prog) (t := 29) Try.underlying29 hi hz1 ho.row (lo := (at0 : Int)) at0 rfl hat
        have SD : Hd (Ars (fun _ => True) W4 (.slice a2 (D.length - at0) c2) (D.drop at0)) := hid ⟨ys.drop (at0 * 3), by
            have e2 : (ys.drop (at0 * 3)).take ((D.length - at0) * 3) = ys.drop (at0 * 3) := List.take_of_length_le (by rw [List.length_drop, ho.1.1]; omega)
            have h := hr2
            rw [e2] at h
            rw [List.length_drop]
            exact h.mono (fun _ _ _ => trivial), fun i y hi => ((arc_drop hc at0).2 i y hi).mono (fun _ _ _ => trivial)⟩
        clear ho hge hc hr2
        go_wp2_with fail
        refine (SameArr_any _ _ _ _ L (D.drop at0) _ SA.out SD.out PI.out.2 (by omega) HLB.out).mono ?_
        rintro e W5 ⟨rfl, hd⟩
        have hk := drawn_keeps (fun _ => False) hd
        clear hd hcut SD
        have BK' : Hd (Blk W5 W1.heap.size #[.slice a1 L.length c1, .int .i64 (D.length : Int)] 28) := hid (blk_keep BK.out hk (fun h => h))
        have F1' : Hd (Fls (fun b => W2.heap.size ≤ b ∧ (Value.slice ad D.length cd).ownBlock ≠ some b) W5 (.slice a1 L.length c1) L) := hid (F1.out.keep hk (fun _ _ _ h => h))
        have AO' : Hd (ArO W2.heap.size W5 (.slice ad D.length cd) D) := hid (AO.out.keep hk (fun _ _ _ h => h))
        have HWS' : Hd (Wins (fun b => w.heap.size ≤ b ∧ b < W1.heap.size) W5 (.slice at' ws.length ct) ws) := hid (HWS.out.keep hk (fun _ _ _ h => h))
        have SF' : Hd (Fls (fun b => wr.heap.size ≤ b) W5 (.slice sa2 ([] : List Flt).length sc2) []) := hid (SF.out.keep hk (fun _ _ _ h => h))
        have SA' : Hd (Ars (fun b => wr.heap.size ≤ b) W5 (.slice so2 L.length sp2) L) := hid (SA.out.keep hk (fun _ _ _ h => h))
        have BX' : Hd (Blk W5 W3.heap.size #[.slice sa2 ([] : List Flt).length sc2, .int .i64 (D.length : Int)] 28) := hid (blk_keep BX.out hk (fun h => h))
        clear BK F1 AO HWS SF SA BX
        have BK := BK'
        clear BK'
        have F1 := F1'
        clear F1'
        have AO := AO'
        clear AO'
        have HWS := HWS'
        clear HWS'
        have SF := SF'
        clear SF'
        have SA := SA'
        clear SA'
        have BX := BX'
        clear BX'
        have HK' : Hd (Keeps (fun _ => False) w W5) := hid (HK.out.trans hk)
        clear HK
        have HK := HK'
        clear HK'
        have z_W5 := hk.size
        clear hk
        have o_BK_0 : W5.cell? ⟨W1.heap.size, 0, none⟩ = some (.slice a1 L.length c1) := blk_cell BK.out 0
        have o_BK_1 : W5.cell? ⟨W1.heap.size, 1, none⟩ = some (.int .i64 (D.length : Int)) := blk_cell BK.out 1
        have o_BX_0 : W5.cell? ⟨W3.heap.size, 0, none⟩ = some (.slice sa2 ([] : List Flt).length sc2) := blk_cell BX.out 0
        have o_BX_1 : W5.cell? ⟨W3.heap.size, 1, none⟩ = some (.int .i64 (D.length : Int)) := blk_cell BX.out 1
        have qd : ((D.length : Int) == D.length) = true := by simp
        go_wp2_with fail
        refine (lives_any _).mono ?_
        rintro e W6 ⟨rfl, hk⟩
        clear o_BK_0 o_BK_1 o_BX_0 o_BX_1
        have BK' : Hd (Blk W6 W1.heap.size #[.slice a1 L.length c1, .int .i64 (D.length : Int)] 28) := hid (blk_keep BK.out hk (fun h => h))
        have F1' : Hd (Fls (fun b => W2.heap.size ≤ b ∧ (Value.slice ad D.length cd).ownBlock ≠ some b) W6 (.slice a1 L.length c1) L) := hid (F1.out.keep hk (fun _ _ _ h => h))
        have AO' : Hd (ArO W2.heap.size W6 (.slice ad D.length cd) D) := hid (AO.out.keep hk (fun _ _ _ h => h))
        have HWS' : Hd (Wins (fun b => w.heap.size ≤ b ∧ b < W1.heap.size) W6 (.slice at' ws.length ct) ws) := hid (HWS.out.keep hk (fun _ _ _ h => h))
        have SF' : Hd (Fls (fun b => wr.heap.size ≤ b) W6 (.slice sa2 ([] : List Flt).length sc2) []) := hid (SF.out.keep hk (fun _ _ _ h => h))
        have SA' : Hd (Ars (fun b => wr.heap.size ≤ b) W6 (.slice so2 L.length sp2) L) := hid (SA.out.keep hk (fun _ _ _ h => h))
        have BX' : Hd (Blk W6 W3.heap.size #[.slice sa2 ([] : List Flt).length sc2, .int .i64 (D.length : Int)] 28) := hid (blk_keep BX.out hk (fun h => h))
        clear BK F1 AO HWS SF SA BX
        have BK := BK'
        clear BK'
        have F1 := F1'
        clear F1'
        have AO := AO'
        clear AO'
        have HWS := HWS'
        clear HWS'
        have SF := SF'
        clear SF'
        have SA := SA'
        clear SA'
        have BX := BX'
        clear BX'
        have HK' : Hd (Keeps (fun _ => False) w W6) := hid (HK.out.trans hk)
        clear HK
        have HK := HK'
        clear HK'
        have z_W6 := hk.size
        clear hk
        go_wp2
        go_ret
        exact ⟨rfl, HK.out⟩
      · obtain rfl : k = m := by omega
        have k1 : ¬ ((k : Int) < k) := by omega
        clear hkm
        have hLl : L.length ≤ 12 := by have := PI.out.2.1; rw [List.length_drop] at this; omega
        have HS : Hd (stepK L (T + 1) = L.length) := hid (stepK_all (fun x hx => by have := (PI.out.1 x hx).1; omega))
        have u1 : IntKind.i64.wrap (T + 1) = T + 1 := IntWalk.i64_in _ (by omega)
        have HLB : Hd (∀ x ∈ L, ∀ c ∈ x.d, c < 256) := hid (fun x hx => (PI.out.1 x hx).2.2.2)
        have o_BK_0 : wr.cell? ⟨W1.heap.size, 0, none⟩ = some (.slice a1 L.length c1) := blk_cell BK.out 0
        have o_BK_1 : wr.cell? ⟨W1.heap.size, 1, none⟩ = some (.int .i64 (D.length : Int)) := blk_cell BK.out 1
        go_wp2_with fail
        refine (Step_any _ L _ (T + 1) _ (F1.out.mono (fun b h _ => h)) (by omega) (fun x hx => by have := (PI.out.1 x hx).2.2.1; omega)).mono ?_
        rintro e W3 ⟨sa2, sn2, sc2, so2, sm2, sp2, rfl, hsn, hsm, hsf, hsr, hk⟩
        rw [HS.out, List.drop_length] at hsn hsf
        rw [HS.out, List.take_length] at hsm hsr
        subst hsn hsm
        have SF := hid hsf; have SA := hid hsr; clear hsf hsr
        clear o_BK_0 o_BK_1
        have BK' : Hd (Blk W3 W1.heap.size #[.slice a1 L.length c1, .int .i64 (D.length : Int)] 28) := hid (blk_keep BK.out hk (fun h => h))
        have F1' : Hd (Fls (fun b => W2.heap.size ≤ b ∧ (Value.slice ad D.length cd).ownBlock ≠ some b) W3 (.slice a1 L.length c1) L) := hid (F1.out.keep hk (fun _ _ _ h => h))
        have AO' : Hd (ArO W2.heap.size W3 (.slice ad D.length cd) D) := hid (AO.out.keep hk (fun _ _ _ h => h))
        have HWS' : Hd (Wins (fun b => w.heap.size ≤ b ∧ b < W1.heap.size) W3 (.slice at' ws.length ct) ws) := hid (HWS.out.keep hk (fun _ _ _ h => h))
        clear BK F1 AO HWS
        have BK := BK'
        clear BK'
        have F1 := F1'
        clear F1'
        have AO := AO'
        clear AO'
        have HWS := HWS'
        clear HWS'
        have HK' : Hd (Keeps (fun _ => False) w W3) := hid (HK.out.trans hk)
        clear HK
        have HK := HK'
        clear HK'
        have z_W3 := hk.size
        clear hk
        go_upto_region 23 with fail
        generalize hW : World.alloc W3 _ = W4
        have KS : Hd (Keeps (fun _ => False) W3 W4) := hid (by rw [← hW]; exact (Keeps.alloc (Keeps.refl (fun _ => False) W3) _))
        have BK' : Hd (Blk W4 W1.heap.size #[.slice a1 L.length c1, .int .i64 (D.length : Int)] 28) := hid (by rw [← hW]; exact (blk_alloc BK.out _))
        have F1' : Hd (Fls (fun b => W2.heap.size ≤ b ∧ (Value.slice ad D.length cd).ownBlock ≠ some b) W4 (.slice a1 L.length c1) L) := hid (F1.out.keep KS.out (fun _ _ _ h => h))
        have AO' : Hd (ArO W2.heap.size W4 (.slice ad D.length cd) D) := hid (AO.out.keep KS.out (fun _ _ _ h => h))
        have HWS' : Hd (Wins (fun b => w.heap.size ≤ b ∧ b < W1.heap.size) W4 (.slice at' ws.length ct) ws) := hid (HWS.out.keep KS.out (fun _ _ _ h => h))
        have SF' : Hd (Fls (fun b => wr.heap.size ≤ b) W4 (.slice sa2 ([] : List Flt).length sc2) []) := hid (SF.out.keep KS.out (fun _ _ _ h => h))
        have SA' : Hd (Ars (fun b => wr.heap.size ≤ b) W4 (.slice so2 L.length sp2) L) := hid (SA.out.keep KS.out (fun _ _ _ h => h))
        have BX : Hd (Blk W4 W3.heap.size #[.slice sa2 ([] : List Flt).length sc2, .int .i64 (D.length : Int)] 28) := hid (by rw [← hW]; exact (blk_new _ _ _))
        clear BK F1 AO HWS SF SA
        have BK := BK'
        clear BK'
        have F1 := F1'
        clear F1'
        have AO := AO'
        clear AO'
        have HWS := HWS'
        clear HWS'
        have SF := SF'
        clear SF'
        have SA := SA'
        clear SA'
        have HK' : Hd (Keeps (fun _ => False) w W4) := hid (HK.out.trans KS.out)
        clear HK
        have HK := HK'
        clear HK'
        have z_W4 : W3.heap.size + 1 ≤ W4.heap.size := by rw [← hW]; simp
        clear hW KS
        obtain ⟨ys, ho, hge, hc⟩ := AO.out
        obtain ⟨a2, c2, hcut, hr2⟩ := run_cut_from (P := Try.prog) (t := 29) Try.underlying29 hi hz1 ho.row (lo := (at0 : Int)) at0 rfl hat
        have SD : Hd (Ars (fun _ => True) W4 (.slice a2 (D.length - at0) c2) (D.drop at0)) := hid ⟨ys.drop (at0 * 3), by
            have e2 : (ys.drop (at0 * 3)).take ((D.length - at0) * 3) = ys.drop (at0 * 3) := List.take_of_length_le (by rw [List.length_drop, ho.1.1]; omega)
            have h := hr2
            rw [e2] at h
            rw [List.length_drop]
            exact h.mono (fun _ _ _ => trivial), fun i y hi => ((arc_drop hc at0).2 i y hi).mono (fun _ _ _ => trivial)⟩
        clear ho hge hc hr2
        go_wp2_with fail
        refine (SameArr_any _ _ _ _ L (D.drop at0) _ SA.out SD.out PI.out.2 (by omega) HLB.out).mono ?_
        rintro e W5 ⟨rfl, hd⟩
        have hk := drawn_keeps (fun _ => False) hd
        clear hd hcut SD
        have BK' : Hd (Blk W5 W1.heap.size #[.slice a1 L.length c1, .int .i64 (D.length : Int)] 28) := hid (blk_keep BK.out hk (fun h => h))
        have F1' : Hd (Fls (fun b => W2.heap.size ≤ b ∧ (Value.slice ad D.length cd).ownBlock ≠ some b) W5 (.slice a1 L.length c1) L) := hid (F1.out.keep hk (fun _ _ _ h => h))
        have AO' : Hd (ArO W2.heap.size W5 (.slice ad D.length cd) D) := hid (AO.out.keep hk (fun _ _ _ h => h))
        have HWS' : Hd (Wins (fun b => w.heap.size ≤ b ∧ b < W1.heap.size) W5 (.slice at' ws.length ct) ws) := hid (HWS.out.keep hk (fun _ _ _ h => h))
        have SF' : Hd (Fls (fun b => wr.heap.size ≤ b) W5 (.slice sa2 ([] : List Flt).length sc2) []) := hid (SF.out.keep hk (fun _ _ _ h => h))
        have SA' : Hd (Ars (fun b => wr.heap.size ≤ b) W5 (.slice so2 L.length sp2) L) := hid (SA.out.keep hk (fun _ _ _ h => h))
        have BX' : Hd (Blk W5 W3.heap.size #[.slice sa2 ([] : List Flt).length sc2, .int .i64 (D.length : Int)] 28) := hid (blk_keep BX.out hk (fun h => h))
        clear BK F1 AO HWS SF SA BX
        have BK := BK'
        clear BK'
        have F1 := F1'
        clear F1'
        have AO := AO'
        clear AO'
        have HWS := HWS'
        clear HWS'
        have SF := SF'
        clear SF'
        have SA := SA'
        clear SA'
        have BX := BX'
        clear BX'
        have HK' : Hd (Keeps (fun _ => False) w W5) := hid (HK.out.trans hk)
        clear HK
        have HK := HK'
        clear HK'
        have z_W5 := hk.size
        clear hk
        have o_BK_0 : W5.cell? ⟨W1.heap.size, 0, none⟩ = some (.slice a1 L.length c1) := blk_cell BK.out 0
        have o_BK_1 : W5.cell? ⟨W1.heap.size, 1, none⟩ = some (.int .i64 (D.length : Int)) := blk_cell BK.out 1
        have o_BX_0 : W5.cell? ⟨W3.heap.size, 0, none⟩ = some (.slice sa2 ([] : List Flt).length sc2) := blk_cell BX.out 0
        have o_BX_1 : W5.cell? ⟨W3.heap.size, 1, none⟩ = some (.int .i64 (D.length : Int)) := blk_cell BX.out 1
        have qd : ((D.length : Int) == D.length) = true := by simp
        go_wp2_with fail
        refine (lives_any _).mono ?_
        rintro e W6 ⟨rfl, hk⟩
        clear o_BK_0 o_BK_1 o_BX_0 o_BX_1
        have BK' : Hd (Blk W6 W1.heap.size #[.slice a1 L.length c1, .int .i64 (D.length : Int)] 28) := hid (blk_keep BK.out hk (fun h => h))
        have F1' : Hd (Fls (fun b => W2.heap.size ≤ b ∧ (Value.slice ad D.length cd).ownBlock ≠ some b) W6 (.slice a1 L.length c1) L) := hid (F1.out.keep hk (fun _ _ _ h => h))
        have AO' : Hd (ArO W2.heap.size W6 (.slice ad D.length cd) D) := hid (AO.out.keep hk (fun _ _ _ h => h))
        have HWS' : Hd (Wins (fun b => w.heap.size ≤ b ∧ b < W1.heap.size) W6 (.slice at' ws.length ct) ws) := hid (HWS.out.keep hk (fun _ _ _ h => h))
        have SF' : Hd (Fls (fun b => wr.heap.size ≤ b) W6 (.slice sa2 ([] : List Flt).length sc2) []) := hid (SF.out.keep hk (fun _ _ _ h => h))
        have SA' : Hd (Ars (fun b => wr.heap.size ≤ b) W6 (.slice so2 L.length sp2) L) := hid (SA.out.keep hk (fun _ _ _ h => h))
        have BX' : Hd (Blk W6 W3.heap.size #[.slice sa2 ([] : List Flt).length sc2, .int .i64 (D.length : Int)] 28) := hid (blk_keep BX.out hk (fun h => h))
        clear BK F1 AO HWS SF SA BX
        have BK := BK'
        clear BK'
        have F1 := F1'
        clear F1'
        have AO := AO'
        clear AO'
        have HWS := HWS'
        clear HWS'
        have SF := SF'
        clear SF'
        have SA := SA'
        clear SA'
        have BX := BX'
        clear BX'
        have HK' : Hd (Keeps (fun _ => False) w W6) := hid (HK.out.trans hk)
        clear HK
        have HK := HK'
        clear HK'
        have z_W6 := hk.size
        clear hk
        go_wp2
        go_ret
        exact ⟨rfl, HK.out⟩
end Go.Proofs.Ytjapmpolagblaaa
