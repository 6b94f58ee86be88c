/- File: FileSums walked. -/
import Derived.Test.YtgeicbjlichdgaaDoorFileQ
import Derived.Test.YtgeicbjlichdgaaDoorFileU
import Derived.Test.YtgeicbjlichdgaaDoorFileV
namespace Go.Proofs.YtgeicbjlichdgaaDoor
open Go.RowKit
attribute [local go_sem ↓] Go.wp_at_zero Go.wp_at_succ
/-- segments in the cells of one block, their bytes elsewhere -/
def SgO (K : Nat → Prop) (g : Nat) (w : World) (n lc : Nat) (l : List Seg) : Prop := ∃ xs, n = l.length ∧ Own (fun b => b = g) w 44 5 (.slice (some ⟨g, 0, none⟩) n lc) n xs ∧ SgC K w xs l
theorem SgO.keep {K S : Nat → Prop} {g : Nat} {w w' : World} {n lc : Nat} {l : List Seg} (h : SgO K g w n lc l) (hk : Keeps S w w') (h1 : ¬ S g) (h2 : ∀ b, b < w.heap.size → K b → ¬ S b) : SgO K g w' n lc l := by
  obtain ⟨xs, e, o, c⟩ := h
  exact ⟨xs, e, o.keep hk (fun b _ hb => by rw [hb]; exact h1), c.keep hk h2⟩
theorem SgO.sgs {K : Nat → Prop} {g : Nat} {w : World} {n lc : Nat} {l : List Seg} (h : SgO K g w n lc l) : Sgs (fun b => K b ∨ b = g) w (.slice (some ⟨g, 0, none⟩) n lc) l := by
  obtain ⟨xs, rfl, o, c⟩ := h
  exact ⟨xs, o.row.mono (fun b _ hb => .inr hb), c.mono (fun b _ hb => .inl hb)⟩
theorem sgo_of {KD : Nat → Prop} {B : Nat} {w : World} {a : Option Addr} {n lc : Nat} {l : List Seg} (h : SgP KD B w (.slice a n lc) l) (hn : n = l.length) (h0 : 0 < n) : ∃ g, a = some ⟨g, 0, none⟩ ∧ B ≤ g ∧ g < w.heap.size ∧ SgO (fun b => KD b ∧ b ≠ g ∧ b < w.heap.size) g w n lc l := by
  obtain ⟨xs, h1, h2, h3⟩ := h
  rw [← hn] at h1
  obtain ⟨g, rfl, hg⟩ := own_head h1 h0
  have e : (Value.slice (some ⟨g, 0, none⟩) n lc).ownBlock = some g := rfl
  refine ⟨g, rfl, h2 g e, (h1.1.lt g e).2, xs, hn, ⟨h1.1, fun b hb => by injection hb with hb; exact hb.symm⟩, h3.mono (fun b hb h => ⟨h.1, fun hh => h.2 (by rw [hh]; rfl), hb⟩)⟩
theorem SgO.sum {K : Nat → Prop} {g : Nat} {w : World} {n lc : Nat} {l : List Seg} (h : SgO K g w n lc l) {k : Nat} {s : Seg} (hs : l[k]? = some s) (S : Nat) (hK : ¬ K g) :
    w.frozen? ⟨g, k * 5 + 3, none⟩ = false ∧ w.cell? ⟨g, k * 5 + 3, none⟩ = some (.int .u32 (s.s : Int)) ∧ SgO K g (w.setCell ⟨g, k * 5 + 3, none⟩ (.int .u32 (S : Int))) n lc (l.set k ⟨s.f, s.o, s.t, S, s.d⟩) := by
  have hk : k < l.length := (List.getElem?_eq_some_iff.1 hs).1
  obtain ⟨b, o, ea, _, _, hc⟩ := sgs_cells h.sgs (by omega)
  injection ea with ea; injection ea with e1 e2 e3; subst e1; subst e2
  have hc3 := (hc k s hs).2.2.2.1
  rw [Nat.zero_add] at hc3
  obtain ⟨xs, rfl, ow, c⟩ := h
  refine ⟨ow.1.frozenAt _, hc3, xs.set (k * 5 + 3) (.int .u32 (S : Int)), by simp, ⟨(ow.1.stored (k * 5 + 3) _).1, ow.2⟩, ?_⟩
  have ck := c.keep (keeps_set (fun b => b = g) w ⟨g, k * 5 + 3, none⟩ (.int .u32 (S : Int)) rfl) (fun b _ hb e => hK (e ▸ hb))
  refine ⟨by rw [List.length_set, List.length_set]; exact c.1, fun i x hi => ?_⟩
  have hget : ∀ j, j ≠ k * 5 + 3 → (xs.set (k * 5 + 3) (.int .u32 (S : Int))).getD j undef = xs.getD j undef := fun j hj => by
    unfold List.getD; rw [List.getElem?_set_ne (fun e => hj e.symm)]
  by_cases hik : i = k
  · subst hik
    rw [List.getElem?_set_self hk] at hi
    injection hi with hi; subst hi
    obtain ⟨c0, c1, c2, _, c4⟩ := ck.2 i s hs
    refine ⟨(hget _ (by omega)).trans c0, (hget _ (by omega)).trans c1, (hget _ (by omega)).trans c2, ?_, ?_⟩
    · show (xs.set (i * 5 + 3) _).getD (i * 5 + 3) undef = _
      unfold List.getD
      rw [List.getElem?_set_self (by rw [c.1]; omega)]; rfl
    · show Sl K _ ((xs.set (i * 5 + 3) _).getD (i * 5 + 4) undef) _
      rw [hget _ (by omega)]; exact c4
  · rw [List.getElem?_set_ne (fun e => hik e.symm)] at hi
    exact (ck.2 i x hi).congr (fun j hj => hget _ (by omega))
def setS (S : Nat) (s : Seg) : Seg := ⟨s.f, s.o, s.t, S, s.d⟩
def upL (S : Nat) (L : List Seg) (k : Nat) : List Seg := (L.take k).map (setS S) ++ L.drop k
theorem upL_get {S : Nat} {L : List Seg} {k : Nat} {s : Seg} (h : L[k]? = some s) : (upL S L k)[k]? = some s ∧ (upL S L k).set k ⟨s.f, s.o, s.t, S, s.d⟩ = upL S L (k + 1) := by
  have hk : k < L.length := (List.getElem?_eq_some_iff.1 h).1
  have hl : ((L.take k).map (setS S)).length = k := by simp; omega
  unfold upL
  refine ⟨by rw [List.getElem?_append_right (by omega), hl, Nat.sub_self, List.getElem?_drop]; exact h, ?_⟩
  rw [List.set_append_right _ _ (by omega), hl, Nat.sub_self, List.drop_eq_getElem_cons hk]
  rw [List.set_cons_zero, List.take_add_one, h, List.map_append, List.append_assoc]
  have e : L[k] = s := by rw [List.getElem?_eq_getElem hk] at h; injection h
  rfl
def SumSt (K Z : Nat → Prop) (W : World) (p g n lc : Nat) (l : List Seg) (M : Pm) (w : World) : Prop := PartR (fun b => Z b ∨ W.heap.size ≤ b) w p M ∧ SgO K g w n lc l ∧ Keeps (fun b => Z b ∨ b = g) W w
set_option maxRecDepth 100000 in set_option maxHeartbeats 1000000 in
theorem sums_any (v1 : Value) (l1 : List Nat) (id n0 at_ : Int) (bt : Nat) (w : World) (hN : Cr.Nib w) (h1 : Sl (fun b => b < w.heap.size) w v1 (u8s l1)) (hl1 : ∀ c ∈ l1, c < 256) (hn0 : -9223372036854775808 ≤ n0 ∧ n0 ≤ 9223372036854775807) (ha0 : -9223372036854775808 ≤ at_ ∧ at_ ≤ 9223372036854775807) (hbt : bt < 4294967296) :
    Calls Tryd.prog 7 #[.int .i64 id, v1, .int .i64 n0, .int .i64 at_, .int .u32 (bt : Int)] w fun e w' => e = .returned (.bool true) ∧ Keeps (fun _ => False) w w' := by
  have HN0 := hid hn0; have HA0 := hid ha0; have HBT := hid hbt
  clear hn0 ha0 hbt
  have HN : Hd (NibF w) := hid hN
  have hpos := HN.out.pos
  have H1 := hid h1
  obtain ⟨x, hx⟩ : ∃ x, l1.take 700 = x := ⟨_, rfl⟩
  have HFB : Hd (∀ c ∈ x, c < 256) := hid (by rw [← hx]; exact fun c hc => hl1 c (List.mem_of_mem_take hc))
  have hxl : x.length ≤ 700 := by rw [← hx, List.length_take]; omega
  have HFE := hid hx
  clear hN h1 hl1 hx
  go_enter Tryd.func7, Tryd.ntmps7
  go_wp2_with fail
  refine (most_any _ _ l1 _ H1.out).mono ?_
  rw [HFE.out]
  rintro e wx ⟨ma, mc, rfl, hm, rfl⟩
  have SM := hid hm; clear hm
  go_wp2_with fail
  refine (Flip_any _ _ x at_ bt _ SM.out HFB.out (by omega) HA0.out.1 HA0.out.2 HBT.out).mono ?_
  rintro e W1 ⟨y, q, p2, ya, yc, rfl, hyl, hyb, hq, hp, hnum, hown, hk⟩
  have SY := hid (row_sl hown.row (by rw [u8s_length]))
  have HYB := hid hyb; have HYL := hid hyl
  have HD : Hd ((q = 0 → Cr.crc y = Cr.crc x) ∧ (q ≠ 0 → Cr.crc y ≠ Cr.crc x)) := hid ⟨fun h0 => by rw [Cr.num_inj hyb HFB.out hyl (by rw [hnum, h0, Nat.zero_mul, Nat.xor_zero])], fun h0 => Cr.burst_seen hyl.symm p2 q hq h0 (by omega) hnum⟩
  clear hyl hyb hq hp hnum hown
  have hyl : y.length ≤ 700 := by rw [HYL.out]; exact hxl
  have HN' : Hd (NibF W1) := hid (HN.out.keep hk (fun _ _ _ h => h))
  have H1' : Hd (Sl (fun b => b < w.heap.size) W1 v1 (u8s l1)) := hid (H1.out.keep hk (fun _ _ _ h => h))
  have SM' : Hd (Sl (fun b => b < w.heap.size) W1 (.slice ma x.length mc) (u8s x)) := hid (SM.out.keep hk (fun _ _ _ h => h))
  clear HN H1 SM
  have HN := HN'
  clear HN'
  have H1 := H1'
  clear H1'
  have SM := SM'
  clear SM'
  have HK : Hd (Keeps (fun _ => False) w W1) := hid hk
  have z_W1 := hk.size
  clear hk
  go_wp2_with fail
  refine (size_any n0 _ HN0.out.1 HN0.out.2).mono ?_
  rintro e wx ⟨rfl, rfl⟩
  have HSLz : Hd (1 + around n0 256 = sizeL n0) := hid rfl
  have HZBz := hid (sizeL_b n0)
  rw [HSLz.out]
  generalize sizeL n0 = z at *
  clear HSLz
  obtain ⟨R, hR⟩ : ∃ R, cutL id y z = R := ⟨_, rfl⟩
  have HOR2 : Hd (∀ s ∈ R, OfF id y s) := hid (by rw [← hR]; exact cut_of)
  have HCV : Hd (∀ i, i < y.length → ∃ s ∈ R, inS s i = true) := hid (fun i hi => by rw [← hR]; exact cut_cov HZBz.out (by omega) hi)
  have hR0 : R ≠ [] := by rw [← hR]; exact cut_ne HZBz.out (by omega)
  have hRl : R.length ≤ y.length + 1 := by rw [← hR]; exact cutL_len _ _ _
  have hF0 : fitsL y z = 0 := fits_ok HZBz.out (by omega)
  have HRE := hid hR; have HF0 := hid hF0
  clear hR hF0
  have hR1 : 0 < R.length := List.length_pos_iff.2 hR0
  have HRN := hid hR0
  clear hR0
  go_wp2_with fail
  refine (Cut_any _ y id z _ HN.out (SY.out.mono (fun b h _ => h)) HYB.out (by omega)).mono ?_
  rw [HRE.out, HF0.out]
  rintro e W2 ⟨ra, rn, rc, rfl, rfl, hrp, hk⟩
  obtain ⟨gg, rfl, hgB, hgW, hso⟩ := sgo_of hrp rfl hR1
  have SO := hid hso
  clear hrp hso
  have zc := hk.size
  have HN' : Hd (NibF W2) := hid (HN.out.keep hk (fun _ _ _ h => h))
  have H1' : Hd (Sl (fun b => b < w.heap.size) W2 v1 (u8s l1)) := hid (H1.out.keep hk (fun _ _ _ h => h))
  have SM' : Hd (Sl (fun b => b < w.heap.size) W2 (.slice ma x.length mc) (u8s x)) := hid (SM.out.keep hk (fun _ _ _ h => h))
  have SY' : Hd (Sl (fun b => w.heap.size ≤ b) W2 (.slice ya y.length yc) (u8s y)) := hid (SY.out.keep hk (fun _ _ _ h => h))
  clear HN H1 SM SY
  have HN := HN'
  clear HN'
  have H1 := H1'
  clear H1'
  have SM := SM'
  clear SM'
  have SY := SY'
  clear SY'
  have HK' : Hd (Keeps (fun _ => False) w W2) := hid (HK.out.trans hk)
  clear HK
  have HK := HK'
  clear HK'
  have z_W2 := hk.size
  clear hk
  clear SY
  go_wp2_with fail
  refine (NewPart_any id _).mono ?_
  rintro e W3 ⟨rfl, hp, hk⟩
  have HP := hid hp
  clear hp
  have SO' : Hd (SgO (fun b => W1.heap.size ≤ b ∧ b ≠ gg ∧ b < W2.heap.size) gg W3 R.length rc R) := hid (SO.out.keep hk (fun h => h) (fun _ _ _ h => h))
  clear SO
  have SO := SO'
  clear SO'
  have HN' : Hd (NibF W3) := hid (HN.out.keep hk (fun _ _ _ h => h))
  have H1' : Hd (Sl (fun b => b < w.heap.size) W3 v1 (u8s l1)) := hid (H1.out.keep hk (fun _ _ _ h => h))
  have SM' : Hd (Sl (fun b => b < w.heap.size) W3 (.slice ma x.length mc) (u8s x)) := hid (SM.out.keep hk (fun _ _ _ h => h))
  clear HN H1 SM
  have HN := HN'
  clear HN'
  have H1 := H1'
  clear H1'
  have SM := SM'
  clear SM'
  have HK' : Hd (Keeps (fun _ => False) w W3) := hid (HK.out.trans hk)
  clear HK
  have HK := HK'
  clear HK'
  have z_W3 := hk.size
  clear hk
  have lt_p : W2.heap.size < W3.heap.size := by obtain ⟨_, _, _, _, hb, _⟩ := HP.out; exact blk_lt hb
  have HF00 : Hd (FitS id y (Cr.crc x) (newM id)) := hid (newM_fitS id y _)
  obtain ⟨n, hn⟩ : ∃ n, R.length = n := ⟨_, rfl⟩
  rw [hn] at SO hRl hR1 ⊢
  have HNL := hid hn
  clear hn
  have hc32 : Cr.crc x < 4294967296 := Cr.crc_lt HFB.out
  have HC32 := hid hc32
  clear hc32
  have HOS : Hd (∀ s ∈ R.map (setS (Cr.crc x)), OfS id y (Cr.crc x) s) := hid (fun s hs => by obtain ⟨s', h, rfl⟩ := List.mem_map.1 hs; exact of_s _ (HOR2.out s' h))
  obtain ⟨S, hS⟩ : ∃ S, Cr.crc x = S := ⟨_, rfl⟩
  rw [hS] at HF00 HC32 HOS HD
  have HSX := hid hS
  clear hS
  have hpg : W2.heap.size ≠ gg := by omega
  go_wp2_with fail
  go_loopw [17] (fun iv wr => ∃ k : Nat, iv = .int .i64 k ∧ k ≤ n ∧ Hd (SumSt (fun b => W1.heap.size ≤ b ∧ b ≠ gg ∧ b < W2.heap.size) (fun b => b = W2.heap.size) W3 (W2.heap.size) gg n rc (upL S R k) (((R.map (setS S)).take k).foldl putM (newM id)) wr)) (fun iv _ => n - (intOf iv).toNat)
  case atStart => exact ⟨0, rfl, Nat.zero_le _, hid ⟨HP.out.mono (fun b _ h => .inl h), SO.out, Keeps.refl _ _⟩⟩
  case round =>
    obtain ⟨V, rfl⟩ : ∃ V, V = wr := ⟨_, rfl⟩
    obtain ⟨k, rfl, hk, PS⟩ := hrel
    by_cases hkm : k < n
    · have k1 : (k : Int) < n := by omega
      have k2 : (0 : Int) ≤ k := by omega
      obtain ⟨s, hs⟩ : ∃ s, R[k]? = some s := ⟨R[k]'(by rw [HNL.out]; omega), List.getElem?_eq_getElem _⟩
      obtain ⟨ps1, ps2, ps3⟩ := PS.out
      obtain ⟨u1, u2⟩ := upL_get (S := S) hs
      obtain ⟨fz, c3, so2⟩ := ps2.sum u1 S (fun h => h.2.1 rfl)
      rw [u2] at so2
      have SO2 := hid so2; have PS1 := hid ps1; have PS3 := hid ps3
      have hms : (R.map (setS S))[k]? = some (setS S s) := by rw [List.getElem?_map, hs]; rfl
      have hou : OfS id y S (setS S s) := HOS.out _ (List.mem_of_getElem? hms)
      obtain ⟨f1, -, -⟩ := puts_ofS (show y.length ≤ 65536 by omega) HYB.out HC32.out ((R.map (setS S)).take k) (newM id) HF00.out (fun s' hs' => HOS.out s' (List.mem_of_mem_take hs'))
      obtain ⟨e0, -, -⟩ := put_ofS (show y.length ≤ 65536 by omega) HYB.out HC32.out f1 hou
      have HNX : Hd (((R.map (setS S)).take (k + 1)).foldl putM (newM id) = putM (((R.map (setS S)).take k).foldl putM (newM id)) (setS S s)) := hid (by rw [List.take_add_one, hms, List.foldl_append]; rfl)
      have HOK := hid f1.ok; have HE0 := hid e0
      have HYD : Hd (∀ c ∈ s.d, c < 256) := hid (fun c hc => by rw [show s.d = (y.drop s.o.toNat).take s.d.length from hou.d] at hc; exact HYB.out c (List.mem_of_mem_drop (List.mem_of_mem_take hc)))
      have HU1 := hid u1
      have HUL : Hd ((upL S R (k + 1)).length = n) := hid (by unfold upL; simp; have := HNL.out; omega)
      have HUK : Hd ((upL S R (k + 1))[k]? = some (setS S s)) := hid (by rw [← u2, List.getElem?_set_self (List.getElem?_eq_some_iff.1 u1).1]; rfl)
      have HS3 : Hd (Sl (fun b => b < w.heap.size) V (.slice ma x.length mc) (u8s x)) := hid (SM.out.keep ps3 (fun b h1 h2 h3 => by omega))
      have HN3 : Hd (NibF V) := hid (HN.out.keep ps3 (fun b h1 h2 h3 => by omega))
      have zV := ps3.size
      clear ps1 ps2 ps3 u1 u2 so2 hou f1 e0 hms PS
      generalize hM : ((R.map (setS S)).take k).foldl putM (newM id) = M at *
      clear hM
      go_wp2_with fail
      refine (Cr.Sum_any _ _ x _ HN3.out HS3.out HFB.out (by omega)).mono ?_
      rw [HSX.out]
      rintro e wx ⟨rfl, rfl⟩
      go_upto_region 11 with fail
      generalize hW : World.setCell _ _ _ = V2
      have SO3 : Hd (SgO (fun b => W1.heap.size ≤ b ∧ b ≠ gg ∧ b < W2.heap.size) gg V2 n rc (upL S R (k + 1))) := hid (by rw [← hW]; exact SO2.out)
      have k3 : Keeps (fun b => b = gg) V V2 := by rw [← hW]; exact keeps_set _ _ _ _ rfl
      have PS4 : Hd (PartR (fun b => (fun b => b = W2.heap.size) b ∨ W3.heap.size ≤ b) V2 (W2.heap.size) M) := hid (PS1.out.keep k3 (fun b hb h e => by subst e; rcases h with h | h <;> omega))
      have PS5 : Hd (Keeps (fun b => (fun b => b = W2.heap.size) b ∨ b = gg) W3 V2) := hid (PS3.out.trans' k3 (fun b hb h => .inr h))
      have zV2 := k3.size
      clear hW k3 SO2 PS1 PS3 fz c3
      obtain ⟨bx, ox, ebx, -, hbx2, hcx⟩ := sgs_cells SO3.out.sgs (by rw [HUL.out]; omega)
      injection ebx with ebx; injection ebx with eb1 eb2 eb3; subst eb1; subst eb2
      obtain ⟨x0, x1, x2, x3, ad, cd, x4, SX⟩ := hcx k _ HUK.out
      simp only [setS, Nat.zero_add] at x0 x1 x2 x3 x4 SX
      have HSX2 := hid SX
      clear SX hcx
      go_wp2_with fail
      refine (Put_any _ _ M (setS S s) ad cd _ PS4.out HOK.out (HSX2.out.mono (K' := fun b => ¬ ((fun b => b = W2.heap.size) b ∨ W3.heap.size ≤ b) ∧ b < V2.heap.size) (fun b h1 h2 => ⟨fun h3 => by rcases h2 with h2 | h2 <;> rcases h3 with h3 | h3 <;> omega, h1⟩)) HYD.out HC32.out).mono ?_
      rintro e V3 ⟨rfl, hp5, hk5⟩
      rw [HE0.out]
      rw [← HNX.out] at hp5
      have HPS : Hd (SumSt (fun b => W1.heap.size ≤ b ∧ b ≠ gg ∧ b < W2.heap.size) (fun b => b = W2.heap.size) W3 (W2.heap.size) gg n rc (upL S R (k + 1)) (((R.map (setS S)).take (k + 1)).foldl putM (newM id)) V3) := hid ⟨hp5.mono (fun b _ h => by rcases h with h | h; exact h; exact .inr (by omega)), SO3.out.keep hk5 (fun h => by rcases h with h | h <;> omega) (fun b h1 h2 h3 => by rcases h3 with h3 | h3 <;> omega), PS5.out.trans' hk5 (fun b hb h => by rcases h with h | h; exact .inl h; omega)⟩
      clear hp5 hk5 x0 x1 x2 x3 x4
      go_wp2
      go_roundw
      case rel => exact ⟨k + 1, by go_num, by omega, HPS⟩
      case measure => simp [intOf]; omega
    · have hkn : k = n := by omega
      have k0 : ¬ ((k : Int) < n) := by omega
      obtain ⟨hp9, -, hk⟩ := PS.out
      have hl9 : (R.map (setS S)).length = n := by rw [List.length_map, HNL.out]
      rw [List.take_of_length_le (by rw [hl9]; omega)] at hp9
      obtain ⟨f1, f2, f3⟩ := puts_ofS (show y.length ≤ 65536 by omega) HYB.out HC32.out (R.map (setS S)) (newM id) HF00.out HOS.out
      obtain ⟨d1, d2⟩ := fit_doneS f1 (f2 (fun h => HRN.out (List.map_eq_nil_iff.1 h))) (fun i hi => by rw [f3 i]; obtain ⟨s, hs, h⟩ := HCV.out i hi; rw [List.any_eq_true.2 ⟨setS S s, List.mem_map.2 ⟨s, hs, rfl⟩, h⟩, Bool.or_true])
      have HOK := hid f1.ok; have HBY := hid d2
      clear f1 f2 f3 d1 d2 hl9
      generalize hM : (R.map (setS S)).foldl putM (newM id) = M at *
      clear hM
      clear HP SO
      have HP := hid hp9
      clear hp9 PS hkm
      have HN' : Hd (NibF V) := hid (HN.out.keep hk (fun b h1 h2 h3 => by rcases h3 with h3 | h3 <;> omega))
      have H1' : Hd (Sl (fun b => b < w.heap.size) V v1 (u8s l1)) := hid (H1.out.keep hk (fun b h1 h2 h3 => by rcases h3 with h3 | h3 <;> omega))
      have SM' : Hd (Sl (fun b => b < w.heap.size) V (.slice ma x.length mc) (u8s x)) := hid (SM.out.keep hk (fun b h1 h2 h3 => by rcases h3 with h3 | h3 <;> omega))
      clear HN H1 SM
      have HN := HN'
      clear HN'
      have H1 := H1'
      clear H1'
      have SM := SM'
      clear SM'
      have HK' : Hd (Keeps (fun _ => False) w V) := hid (HK.out.trans' hk (fun i hi h => by rcases h with h | h <;> omega))
      clear HK
      have HK := HK'
      clear HK'
      have z_V := hk.size
      clear hk
      by_cases hq0 : q = 0
      · have HBZ : Hd ((bytesM M).2 = 0) := hid (by rw [HBY.out, if_neg (fun h => h (HD.out.1 hq0))])
        have dq : decide (q = 0) = true := decide_eq_true hq0
        clear HBY HD
        go_wp2_with fail
        refine (Bytes_any _ _ M _ HN.out HP.out HOK.out).mono ?_
        rw [HBZ.out]
        rintro e W4 ⟨ba, bc, rfl, -, hk⟩
        have HN' : Hd (NibF W4) := hid (HN.out.keep hk (fun _ _ _ h => h))
        have H1' : Hd (Sl (fun b => b < w.heap.size) W4 v1 (u8s l1)) := hid (H1.out.keep hk (fun _ _ _ h => h))
        have SM' : Hd (Sl (fun b => b < w.heap.size) W4 (.slice ma x.length mc) (u8s x)) := hid (SM.out.keep hk (fun _ _ _ h => h))
        have HP' : Hd (PartR (fun b => (b = W2.heap.size) ∨ W3.heap.size ≤ b) W4 (W2.heap.size) M) := hid (HP.out.keep hk (fun _ _ _ h => h))
        clear HN H1 SM HP
        have HN := HN'
        clear HN'
        have H1 := H1'
        clear H1'
        have SM := SM'
        clear SM'
        have HP := HP'
        clear HP'
        have HK' : Hd (Keeps (fun _ => False) w W4) := hid (HK.out.trans hk)
        clear HK
        have HK := HK'
        clear HK'
        have z_W4 := hk.size
        clear hk
        go_wp2_with fail
        refine (lives_any _ HN.out).mono ?_
        rintro e W5 ⟨rfl, hk⟩
        have HN' : Hd (NibF W5) := hid (HN.out.keep hk (fun _ _ _ h => h))
        have H1' : Hd (Sl (fun b => b < w.heap.size) W5 v1 (u8s l1)) := hid (H1.out.keep hk (fun _ _ _ h => h))
        have SM' : Hd (Sl (fun b => b < w.heap.size) W5 (.slice ma x.length mc) (u8s x)) := hid (SM.out.keep hk (fun _ _ _ h => h))
        have HP' : Hd (PartR (fun b => (b = W2.heap.size) ∨ W3.heap.size ≤ b) W5 (W2.heap.size) M) := hid (HP.out.keep hk (fun _ _ _ h => h))
        clear HN H1 SM HP
        have HN := HN'
        clear HN'
        have H1 := H1'
        clear H1'
        have SM := SM'
        clear SM'
        have HP := HP'
        clear HP'
        have HK' : Hd (Keeps (fun _ => False) w W5) := hid (HK.out.trans hk)
        clear HK
        have HK := HK'
        clear HK'
        have z_W5 := hk.size
        clear hk
        go_wp2
        go_ret
        exact ⟨rfl, HK.out⟩
      · have HBZ : Hd ((bytesM M).2 = 8) := hid (by rw [HBY.out, if_pos (HD.out.2 hq0)])
        have dq : decide (q = 0) = false := decide_eq_false hq0
        clear HBY HD
        go_wp2_with fail
        refine (Bytes_any _ _ M _ HN.out HP.out HOK.out).mono ?_
        rw [HBZ.out]
        rintro e W4 ⟨ba, bc, rfl, -, hk⟩
        have HN' : Hd (NibF W4) := hid (HN.out.keep hk (fun _ _ _ h => h))
        have H1' : Hd (Sl (fun b => b < w.heap.size) W4 v1 (u8s l1)) := hid (H1.out.keep hk (fun _ _ _ h => h))
        have SM' : Hd (Sl (fun b => b < w.heap.size) W4 (.slice ma x.length mc) (u8s x)) := hid (SM.out.keep hk (fun _ _ _ h => h))
        have HP' : Hd (PartR (fun b => (b = W2.heap.size) ∨ W3.heap.size ≤ b) W4 (W2.heap.size) M) := hid (HP.out.keep hk (fun _ _ _ h => h))
        clear HN H1 SM HP
        have HN := HN'
        clear HN'
        have H1 := H1'
        clear H1'
        have SM := SM'
        clear SM'
        have HP := HP'
        clear HP'
        have HK' : Hd (Keeps (fun _ => False) w W4) := hid (HK.out.trans hk)
        clear HK
        have HK := HK'
        clear HK'
        have z_W4 := hk.size
        clear hk
        go_wp2_with fail
        refine (lives_any _ HN.out).mono ?_
        rintro e W5 ⟨rfl, hk⟩
        have HN' : Hd (NibF W5) := hid (HN.out.keep hk (fun _ _ _ h => h))
        have H1' : Hd (Sl (fun b => b < w.heap.size) W5 v1 (u8s l1)) := hid (H1.out.keep hk (fun _ _ _ h => h))
        have SM' : Hd (Sl (fun b => b < w.heap.size) W5 (.slice ma x.length mc) (u8s x)) := hid (SM.out.keep hk (fun _ _ _ h => h))
        have HP' : Hd (PartR (fun b => (b = W2.heap.size) ∨ W3.heap.size ≤ b) W5 (W2.heap.size) M) := hid (HP.out.keep hk (fun _ _ _ h => h))
        clear HN H1 SM HP
        have HN := HN'
        clear HN'
        have H1 := H1'
        clear H1'
        have SM := SM'
        clear SM'
        have HP := HP'
        clear HP'
        have HK' : Hd (Keeps (fun _ => False) w W5) := hid (HK.out.trans hk)
        clear HK
        have HK := HK'
        clear HK'
        have z_W5 := hk.size
        clear hk
        go_wp2
        go_ret
        exact ⟨rfl, HK.out⟩
end Go.Proofs.YtgeicbjlichdgaaDoor
