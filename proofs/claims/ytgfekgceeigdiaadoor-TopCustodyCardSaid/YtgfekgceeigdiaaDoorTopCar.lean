/- TopCustody: carried. -/
import Derived.Test.YtgfekgceeigdiaaDoorTopTick
namespace Go.Proofs.YtgfekgceeigdiaaDoor
open Go.RowKit
attribute [local go_sem ↓] Go.wp_at_zero Go.wp_at_succ
/-- a part under way in a loop that began in W: its blocks are those of Z and new ones -/
def PutSt (Z : Nat → Prop) (W : World) (p : Nat) (M : Pm) (w : World) : Prop := PartR (fun b => Z b ∨ W.heap.size ≤ b) w p M ∧ Keeps Z W w
theorem putSt_start {Z : Nat → Prop} {W : World} {p : Nat} {M : Pm} (h : PartR Z W p M) : PutSt Z W p M W := ⟨h.mono (fun _ _ h => .inl h), Keeps.refl _ _⟩
theorem putSt_put {Z : Nat → Prop} {W w w' : World} {p : Nat} {M : Pm} {y : Seg} {e : Ending} (h : PutSt Z W p M w) (hp : PutPost (fun b => Z b ∨ W.heap.size ≤ b) w p M y e w') : e = .returned (.int .i64 (putE M y)) ∧ PutSt Z W p (putM M y) w' := by
  obtain ⟨h1, h2, h3⟩ := hp
  refine ⟨h1, h2.mono (fun b _ hb => ?_), h.2.trans' h3 (fun i hi hb => ?_)⟩
  · rcases hb with hb | hb
    · exact hb
    · exact .inr (Nat.le_trans h.2.size hb)
  · rcases hb with hb | hb
    · exact hb
    · omega
theorem sl_below {K Z : Nat → Prop} {W w : World} {v : Value} {xs : List Value} (h : Sl K W v xs) (hk : Keeps Z W w) (hd : ∀ b, b < W.heap.size → K b → ¬ Z b) : Sl (fun b => ¬ (Z b ∨ W.heap.size ≤ b) ∧ b < w.heap.size) w v xs :=
  (h.mono (K' := fun b => ¬ (Z b ∨ W.heap.size ≤ b) ∧ b < w.heap.size) (fun b hb hK => ⟨fun e => by rcases e with e | e; exact hd b hb hK e; omega, Nat.lt_of_lt_of_le hb hk.size⟩)).keep hk (fun b _ h1 h2 => h1.1 (.inl h2))
theorem relW_start {U : Nat → Bu} {N : Nat} {fts : List Li.Ft} {p : Nat} {w : World} {fa : Option Addr} {fc : Nat} (hp : 0 < p) (hN : Cr.Nib w) (hB : Blk w p #[.int .i64 10000, (.slice none 0 0), (.slice none 0 0), (.slice none 0 0), .int .i64 10000, (.slice none 0 0), (.slice none 0 0), (.slice none 0 0), .int .i64 10000, (.slice none 0 0), (.slice none 0 0), (.slice none 0 0), (.slice none 0 0), .int .i64 0, .slice fa fts.length fc] 50) (hf : Li.Fts (fun b => b ≠ p) w (.slice fa fts.length fc) fts) : RelW U N fts p w (startR 0) := by
  have hst : StV U N p w ⟨[], [], []⟩ (.slice none 0 0) (.slice none 0 0) (.slice none 0 0) := ⟨none, 0, none, 0, none, 0, rfl, rfl, rfl, Bus.nil _ _, ⟨rfl, .inl ⟨rfl, rfl⟩⟩, ⟨rfl, .inl ⟨rfl, rfl⟩⟩, fun _ h => by cases h⟩
  exact ⟨[], none, 0, fa, fc, (.slice none 0 0), (.slice none 0 0), (.slice none 0 0), (.slice none 0 0), (.slice none 0 0), (.slice none 0 0), (.slice none 0 0), (.slice none 0 0), (.slice none 0 0), rfl, ⟨(fun _ h => by cases h), List.Pairwise.nil⟩, hB, hst, hst, hst, ⟨[], ⟨rfl, .inl ⟨rfl, rfl⟩⟩, fun i x h => by simp at h⟩, hf, hN, hp⟩
set_option maxRecDepth 100000 in
set_option maxHeartbeats 4000000 in
theorem carried_any (v : Value) (x : List Nat) (z : Int) (fts : List Li.Ft) (fa : Option Addr) (fc : Nat) (w : World) (hN : Cr.Nib w) (hv : Sl (fun b => b < w.heap.size) w v (u8s x)) (hb : ∀ c ∈ x, c < 256) (hz : (50 ≤ z ∧ z ≤ 255 ∧ x.length ≤ 400) ∨ (z = 2 ∧ x.length = 7)) (hne : x ≠ [])
    (hF : FtsOk fts) (hft : Li.Fts (fun b => b < w.heap.size) w (.slice fa fts.length fc) fts) :
    Calls Tryd.prog 6 #[v, .int .i64 z, .slice fa fts.length fc] w fun e w' => e = .returned (.bool true) ∧ Keeps (fun _ => False) w w' := by
  obtain ⟨va, vc, rfl, -, -⟩ := hv.bytes
  have hpos : 0 < w.heap.size := NibF.pos (show NibF w from hN)
  have hU : UOk (segU (cutL 4 x z)) (cutL 4 x z).length := uok_seg (by omega) cut_of (by omega) hb (cut_small hz hne)
  have hend := fun (l : List Nat) h1 h2 => end_plain (x := x) (z := z) (by omega) (by omega) hb (l := l) h1 h2 hne
  have hf0 : fitsL x z = 0 := fits_ok (by omega) (by omega)
  have hn8 := cut_small hz hne
  have hput := fun (l : List Seg) (h : ∀ s ∈ l, OfF 4 x s) => puts_of (x := x) (by omega) hb l (newM 4) (newM_fit 4 x) h
  have hcof := fun s (hs : s ∈ cutL 4 x z) => cut_of s hs
  have hcut := fun X (hX : Cr.Nib X) hl => Cut_any (.slice va x.length vc) x 4 z X hX hl hb (by omega)
  rw [hf0] at hcut
  obtain ⟨R, hR⟩ : ∃ R, cutL 4 x z = R := ⟨_, rfl⟩
  rw [hR] at hU hend hn8
  simp only [hR] at hcof hcut
  obtain ⟨N, hNN⟩ : ∃ n, R.length = n := ⟨_, rfl⟩
  rw [hNN] at hU hend hn8
  obtain ⟨fn, hfn⟩ : ∃ n, fts.length = n := ⟨_, rfl⟩
  have HXL : Hd (x.length ≤ 400) := hid (by omega)
  obtain ⟨xl, hxl⟩ : ∃ n, x.length = n := ⟨_, rfl⟩
  have HXN := hid hxl
  rw [hxl] at hv hcut
  have HU := hid hU; have HEND := hid hend; have HPUT := hid hput; have HCOF := hid hcof; have HCUT := hid hcut; have HNN := hid hNN; have HFN := hid hfn; have HB := hid hb; have HF := hid hF; have HV := hid hv; have HFT := hid hft; have HN : Hd (NibF w) := hid hN
  rw [hfn] at HFT
  rw [hxl, hfn]
  clear hU hend hput hcof hcut hNN hfn hb hF hv hft hN hR hf0 hz hne hxl
  go_enter Tryd.func6, Tryd.ntmps6
  go_upto_region 2 with fail
  generalize hW : World.alloc w _ = W1
  have KS : Hd (Keeps (fun _ => False) w W1) := hid (by rw [← hW]; exact (Keeps.alloc (Keeps.refl (fun _ => False) w) _))
  have HN' : Hd (NibF W1) := hid (HN.out.keep KS.out (fun _ _ _ h => h))
  have HV' : Hd (Sl (fun b => b < w.heap.size) W1 (.slice va xl vc) (u8s x)) := hid (HV.out.keep KS.out (fun _ _ _ h => h))
  have HFT' : Hd (Li.Fts (fun b => b < w.heap.size) W1 (.slice fa fn fc) fts) := hid (HFT.out.keep KS.out (fun _ _ _ h => h))
  have BP : Hd (Blk W1 w.heap.size #[(.int .i64 0), (.slice none 0 0), (.slice none 0 0), (.slice none 0 0), (.int .i64 0), (.slice none 0 0), (.slice none 0 0), (.slice none 0 0), (.int .i64 0), (.slice none 0 0), (.slice none 0 0), (.slice none 0 0), (.slice none 0 0), (.int .i64 0), (.slice fa fn fc)] 50) := hid (by rw [← hW]; exact (blk_new _ _ _))
  clear HN HV HFT
  have HN := HN'
  clear HN'
  have HV := HV'
  clear HV'
  have HFT := HFT'
  clear HFT'
  have HK : Hd (Keeps (fun _ => False) w W1) := hid KS.out
  have z_W1 : w.heap.size + 1 ≤ W1.heap.size := by rw [← hW]; simp
  clear hW KS
  obtain ⟨p, hp⟩ : ∃ p, w.heap.size = p := ⟨_, rfl⟩
  have lp : p < W1.heap.size := by omega
  rw [hp] at BP ⊢
  have HPW := hid hp
  clear hp
  go_wp2_with fail
  go_loopw [8] (fun iv wr => ∃ k : Nat, iv = .int .i64 (k : Int) ∧ k ≤ 3 ∧ Hd (Blk wr p #[(.int .i64 (if 0 < k then 10000 else 0)), (.slice none 0 0), (.slice none 0 0), (.slice none 0 0), (.int .i64 (if 1 < k then 10000 else 0)), (.slice none 0 0), (.slice none 0 0), (.slice none 0 0), (.int .i64 (if 2 < k then 10000 else 0)), (.slice none 0 0), (.slice none 0 0), (.slice none 0 0), (.slice none 0 0), (.int .i64 0), (.slice fa fn fc)] 50) ∧ Hd (Keeps (fun b => b = p) W1 wr)) (fun iv _ => 3 - (intOf iv).toNat)
  case atStart => exact ⟨0, rfl, by omega, BP, hid (Keeps.refl _ _)⟩
  case round =>
    obtain ⟨V, rfl⟩ : ∃ V, V = wr := ⟨_, rfl⟩
    obtain ⟨k, rfl, hk, HB, HKV⟩ := hrel
    by_cases hlt : k < 3
    · obtain rfl | rfl | rfl : k = 0 ∨ k = 1 ∨ k = 2 := by omega
      · have HB1 : Hd (Blk V p #[(.int .i64 0), (.slice none 0 0), (.slice none 0 0), (.slice none 0 0), (.int .i64 0), (.slice none 0 0), (.slice none 0 0), (.slice none 0 0), (.int .i64 0), (.slice none 0 0), (.slice none 0 0), (.slice none 0 0), (.slice none 0 0), (.int .i64 0), (.slice fa fn fc)] 50) := HB
        have c0 : V.cell? ⟨p, 0, none⟩ = some (.int .i64 0) := blk_cell HB1.out 0
        have f0 : V.frozen? ⟨p, 0, none⟩ = false := blk_free HB1.out 0
        go_wp2
        go_roundw
        case rel => exact ⟨1, by first | rfl | go_num, by omega, hid (blk_set HB1.out 0 (.int .i64 10000)), hid (HKV.out.trans ((Keeps.refl (fun b => b = p) V).setCell (p := ⟨p, 0, none⟩) (.inl rfl) _))⟩
        case measure => simp [intOf]
      · have HB1 : Hd (Blk V p #[(.int .i64 10000), (.slice none 0 0), (.slice none 0 0), (.slice none 0 0), (.int .i64 0), (.slice none 0 0), (.slice none 0 0), (.slice none 0 0), (.int .i64 0), (.slice none 0 0), (.slice none 0 0), (.slice none 0 0), (.slice none 0 0), (.int .i64 0), (.slice fa fn fc)] 50) := HB
        have c0 : V.cell? ⟨p, 4, none⟩ = some (.int .i64 0) := blk_cell HB1.out 4
        have f0 : V.frozen? ⟨p, 4, none⟩ = false := blk_free HB1.out 4
        go_wp2
        go_roundw
        case rel => exact ⟨2, by first | rfl | go_num, by omega, hid (blk_set HB1.out 4 (.int .i64 10000)), hid (HKV.out.trans ((Keeps.refl (fun b => b = p) V).setCell (p := ⟨p, 4, none⟩) (.inl rfl) _))⟩
        case measure => simp [intOf]
      · have HB1 : Hd (Blk V p #[(.int .i64 10000), (.slice none 0 0), (.slice none 0 0), (.slice none 0 0), (.int .i64 10000), (.slice none 0 0), (.slice none 0 0), (.slice none 0 0), (.int .i64 0), (.slice none 0 0), (.slice none 0 0), (.slice none 0 0), (.slice none 0 0), (.int .i64 0), (.slice fa fn fc)] 50) := HB
        have c0 : V.cell? ⟨p, 8, none⟩ = some (.int .i64 0) := blk_cell HB1.out 8
        have f0 : V.frozen? ⟨p, 8, none⟩ = false := blk_free HB1.out 8
        go_wp2
        go_roundw
        case rel => exact ⟨3, by first | rfl | go_num, by omega, hid (blk_set HB1.out 8 (.int .i64 10000)), hid (HKV.out.trans ((Keeps.refl (fun b => b = p) V).setCell (p := ⟨p, 8, none⟩) (.inl rfl) _))⟩
        case measure => simp [intOf]
    · obtain rfl : k = 3 := by omega
      have HB1 : Hd (Blk V p #[(.int .i64 10000), (.slice none 0 0), (.slice none 0 0), (.slice none 0 0), (.int .i64 10000), (.slice none 0 0), (.slice none 0 0), (.slice none 0 0), (.int .i64 10000), (.slice none 0 0), (.slice none 0 0), (.slice none 0 0), (.slice none 0 0), (.int .i64 0), (.slice fa fn fc)] 50) := HB
      have hk0 : Keeps (fun b => b = p) W1 V := HKV.out
      have HR0 : Hd (RelW (segU R) N fts p V (startR 0)) := hid (relW_start (by have := HPW.out; omega) (Cr.Nib.keep HN.out hk0 (fun e => by have := HPW.out; omega)) (by rw [HFN.out]; exact HB1.out) (by rw [HFN.out]; exact (Li.Fts.keepT HFT.out hk0 (fun b _ h e => by have := HPW.out; omega) |> fun h => Li.Fls.mono h (fun b _ h e => by have := HPW.out; omega))))
      have HV2 := hid (HV.out.keep hk0 (fun b _ h e => by have := HPW.out; omega))
      have HN2 : Hd (NibF V) := hid (Cr.Nib.keep HN.out hk0 (fun e => by have := HPW.out; omega))
      have HK2 : Hd (Keeps (fun _ => False) w V) := hid (HK.out.trans' hk0 (fun i hi e => by have := HPW.out; omega))
      have lpV : p < V.heap.size := by have := hk0.size; omega
      have hzV := hk0.size
      clear hk0 HB1 HB HKV HK HN HV HFT BP
      go_wp2_with fail
      refine (HCUT.out V HN2.out (HV2.out.mono (fun b hb _ => hb))).mono ?_
      rintro e W2 ⟨sa, sn, sc, rfl, hsn, hsp, hkc⟩
      have hsn2 : sn = N := by rw [hsn, HNN.out]
      subst hsn2
      have HSG : Hd (Sgs (fun b => V.heap.size ≤ b) W2 (.slice sa sn sc) R) := hid (hsp.sgs.mono (fun b _ h => by rcases h with h | h <;> exact h))
      have HR1 := hid (HR0.out.keep hkc)
      have HV3 := hid (HV2.out.keep hkc (fun _ _ _ h => h))
      have HK3 : Hd (Keeps (fun _ => False) w W2) := hid (HK2.out.trans hkc)
      have lp2 : p < W2.heap.size := by have := hkc.size; omega
      clear hsn hsp hkc HR0 HV2 HK2 HN2 HCUT
      go_wp2_with fail
      go_loopw [11] (fun iv wr => ∃ k : Nat, iv = .int .i64 (k : Int) ∧ k ≤ sn ∧ Hd (RelW (segU R) sn fts p wr (startR k)) ∧ Hd (Keeps (fun b => b = p) W2 wr)) (fun iv _ => sn - (intOf iv).toNat)
      case atStart => exact ⟨0, rfl, by omega, HR1, hid (Keeps.refl _ _)⟩
      case round =>
        obtain ⟨V2, rfl⟩ : ∃ V, V = wr := ⟨_, rfl⟩
        obtain ⟨k, rfl, hk2, HRK, HKV⟩ := hrel
        by_cases hlt2 : k < sn
        · have q1 : (k : Int) < sn := by omega
          have q2 : (0 : Int) ≤ k := by omega
          obtain ⟨a1, n1, cc1, a2, n2, cc2, a3, n3, cc3, o0, o1, o2, o3, hcr, hst⟩ := create_at HU.out HRK.out hlt2
          have HOC := hid (And.intro o0 (And.intro o1 (And.intro o2 o3)))
          have HCR := hid hcr; have HSET := hid hst
          clear o0 o1 o2 o3 hcr hst
          obtain ⟨sg, hsg⟩ : ∃ s, sgU R k = s := ⟨_, rfl⟩
          have hRk : R[k]? = some sg := by rw [← hsg]; unfold sgU List.getD; rw [List.getElem?_eq_getElem (by rw [HNN.out]; exact hlt2)]; rfl
          obtain ⟨bS, oS, rfl, hbS, hbS2, hsc⟩ := sgs_cells HSG.out (by rw [HNN.out]; omega)
          obtain ⟨t0, t1, t2, t3, ad, cd, t4, hsl⟩ := hsc k sg hRk
          obtain ⟨dl, hdl⟩ : ∃ n, sg.d.length = n := ⟨_, rfl⟩
          have hne : ¬ bS = p := by omega
          have HSC := hid (And.intro (keep_cell HKV.out hne t0) (And.intro (keep_cell HKV.out hne t1) (And.intro (keep_cell HKV.out hne t2) (And.intro (keep_cell HKV.out hne t3) (keep_cell HKV.out hne t4)))))
          have HSLK := hid (hsl.keep HKV.out (fun b _ h e => by omega))
          have HCR2 : Hd (∀ X, Keeps (fun _ => False) V2 X → Calls Tryd.prog 13 #[.agg #[.int .i64 10000, .slice a1 n1 cc1, .slice a2 n2 cc2, .slice a3 n3 cc3], .agg #[.int .i64 (k : Int), .int .i64 0, .int .i64 0, .int .i64 sg.f, .int .i64 sg.o, .int .i64 sg.t, .int .u32 (sg.s : Int), .slice ad dl cd]] X fun e w' => ∃ b1 m1 d1 b2 m2 d2 b3 m3 d3, e = .returned (.tuple #[.agg #[.int .i64 10000, .slice b1 m1 d1, .slice b2 m2 d2, .slice b3 m3 d3], .int .i64 0]) ∧ Keeps (fun _ => False) X w' ∧ StK (segU R) sn (fun b => X.heap.size ≤ b) w' ⟨List.range (k + 1), [], List.range (k + 1)⟩ (.slice b1 m1 d1) (.slice b2 m2 d2) (.slice b3 m3 d3)) := hid (fun X hX => by
            have h := HCR.out X ad cd hX
            rw [show segU R k = ⟨k, 0, 0, sg.f, sg.o, sg.t, sg.s, sg.d⟩ by unfold segU; rw [hsg]] at h
            have h2 := h ((HSLK.out.keep hX (fun _ _ _ h => h)).mono (fun _ _ _ => trivial))
            rw [hdl] at h2
            exact h2)
          rw [hdl] at HSC
          clear HCR HSLK t0 t1 t2 t3 t4 hsl hsc hRk hsg hdl
          obtain ⟨gf, hgf⟩ : ∃ y, sg.f = y := ⟨_, rfl⟩
          obtain ⟨go, hgo⟩ : ∃ y, sg.o = y := ⟨_, rfl⟩
          obtain ⟨gt, hgt⟩ : ∃ y, sg.t = y := ⟨_, rfl⟩
          obtain ⟨gs, hgs⟩ : ∃ y, sg.s = y := ⟨_, rfl⟩
          rw [hgf, hgo, hgt, hgs] at HSC HCR2
          clear hgf hgo hgt hgs
          obtain ⟨sk, hsk⟩ : ∃ s : Sto, ⟨List.range (k + 1), [], List.range (k + 1)⟩ = s := ⟨_, rfl⟩
          rw [hsk] at HCR2 HSET
          clear hsk
          go_upto_region 12 with fail
          refine Mm.wp_many (C := Mm.mkMC [11] [(11, [11]), (12, [11]), (13, [11]), (14, [11]), (16, [11]), (17, [11])] [(15, 44, #[(.int .i64 0), (.slice none 0 0), (.slice none 0 0), (.slice none 0 0)])] [(16, 15, 13)] [(fun r => .pointer (some ⟨p, 0, none⟩)), (fun r => .pointer (some ⟨p, 0, none⟩)), (fun r => .pointer (some ⟨p, 0, none⟩)), (fun r => .pointer (some ⟨p, 0, none⟩)), (fun r => .agg #[.int .i64 10000, .slice a1 n1 cc1, .slice a2 n2 cc2, .slice a3 n3 cc3]), (fun r => .int .i64 (k : Nat)), (fun r => .slice (some ⟨bS, oS, none⟩) sn sc), (fun r => .int .i64 (k : Nat)), (fun r => .pointer (some ⟨bS, oS + k * 5, none⟩)), (fun r => .agg #[.int .i64 gf, .int .i64 go, .int .i64 gt, .int .u32 (gs : Int), .slice ad dl cd]), (fun r => .agg #[.int .i64 (k : Int), .int .i64 0, .int .i64 0, .int .i64 gf, .int .i64 go, .int .i64 gt, .int .u32 (gs : Int), .slice ad dl cd]), (fun r => r 11), (fun r => r 11), (fun r => Mm.tupAt (r 11) 0), (fun r => Mm.tupAt (r 11) 1), (fun _ => undef), (fun _ => undef), (fun r => Mm.tupAt (r 11) 1)] (fun _ r => aggCells (Mm.tupAt (r 11) 0)) ((fun (_ : Nat) (K : Nat → Prop) (v : Value) (wx : World) => PasR (segU R) sn (fun b => K b ∧ V2.heap.size ≤ b) sk v wx))) (by kernel_rfl) ?H ?HV ?HC ?HE
          case H =>
            refine { back := by kernel_rfl, dst := uniqB_spec (by kernel_rfl), szd := underB_spec (by kernel_rfl), val := Mm.valB_spec3 (f := Mm.mkV [(15, 44, #[(.int .i64 0), (.slice none 0 0), (.slice none 0 0), (.slice none 0 0)])] [(16, 15, 13)]) (by kernel_rfl), alo := ?_, sto := ?_, stc := ?_, all := Mm.allB3_spec (f := Mm.mkV [(15, 44, #[(.int .i64 0), (.slice none 0 0), (.slice none 0 0), (.slice none 0 0)])] [(16, 15, 13)]) (g := Mm.mkA [(15, 44, #[(.int .i64 0), (.slice none 0 0), (.slice none 0 0), (.slice none 0 0)])]) (h := Mm.mkS [(16, 15, 13)]) (by kernel_rfl), nva := ?_, nvs := ?_, one := ?_, civ := ?_, nd := ?_, ndc := ?_, pc := Mm.pcB_spec (by kernel_rfl), dd := Mm.ddB_spec (by kernel_rfl), sem := oneSem 44 #[(.int .i64 0), (.slice none 0 0), (.slice none 0 0), (.slice none 0 0)] _ _ 15 16 13 11 _ _ (fun v => Mm.tupAt v 0) rfl rfl (fun w => by go_simp) pasR_k pasR_m (fun K r w h b cs hb hz => by obtain ⟨b1, m1, d1, b2, m2, d2, b3, m3, d3, rfl, -⟩ := h; obtain ⟨w', e1, e2, e3⟩ := st_store hb hz 10000 b1 b2 b3 m1 m2 m3 d1 d2 d3; exact ⟨w', e1, e2, e3, rfl⟩) }
            · intro j o h0 ha
              have h1 : 15 = j := by simpa [Mm.mkMC] using ha
              subst h1
              all_goals
                have h2 := h0
                simp only [List.getElem?_cons_succ, List.getElem?_cons_zero, Option.some.injEq] at h2
                subst h2
                exact ⟨⟨_, rfl⟩, rfl, rfl⟩
            · intro s o h0 ha
              have h1 : 16 = s := by simpa [Mm.mkMC] using ha
              subst h1
              all_goals
                have h2 := h0
                simp only [List.getElem?_cons_succ, List.getElem?_cons_zero, Option.some.injEq] at h2
                subst h2
                exact ⟨_, _, _, _, rfl, rfl, rfl, rfl, rfl, rfl, rfl, waitsB_spec (by kernel_rfl), waitsB_spec (by kernel_rfl)⟩
            · intro s ha
              have h1 : 16 = s := by simpa [Mm.mkMC] using ha
              subst h1
              all_goals exact ⟨rfl, rfl⟩
            · intro s ha
              have h1 : 15 = s := by simpa [Mm.mkMC] using ha
              subst h1
              all_goals exact ⟨rfl, rfl, fun c => by simp [Mm.mkMC]⟩
            · intro s ha
              have h1 : 16 = s := by simpa [Mm.mkMC] using ha
              subst h1
              all_goals exact ⟨rfl, rfl⟩
            · intro s t ha hb hst
              have h1 : 16 = s := by simpa [Mm.mkMC] using ha
              subst h1
              all_goals (have h2 : 16 = t := by simpa [Mm.mkMC] using hb)
              exact h2
            · intro c hc
              have h1 : c = 11 := by simpa [Mm.mkMC] using hc
              subst h1
              all_goals exact ⟨rfl, rfl, fun _ => rfl⟩
            · intro i r r' hv hD
              match i, hD with
              | 0, _ => rfl
              | 1, _ => rfl
              | 2, _ => rfl
              | 3, _ => rfl
              | 4, _ => rfl
              | 5, _ => rfl
              | 6, _ => rfl
              | 7, _ => rfl
              | 8, _ => rfl
              | 9, _ => rfl
              | 10, _ => rfl
              | 11, hD => exact (show (r 11 : Value) = r' 11 by rw [hD 11 rfl])
              | 12, hD => exact (show (r 11 : Value) = r' 11 by rw [hD 11 rfl])
              | 13, hD => exact (show (Mm.tupAt (r 11) 0 : Value) = Mm.tupAt (r' 11) 0 by rw [hD 11 rfl])
              | 14, hD => exact (show (Mm.tupAt (r 11) 1 : Value) = Mm.tupAt (r' 11) 1 by rw [hD 11 rfl])
              | 15, _ => rfl
              | 16, _ => rfl
              | 17, hD => exact (show (Mm.tupAt (r 11) 1 : Value) = Mm.tupAt (r' 11) 1 by rw [hD 11 rfl])
              | n + 18, _ => rfl
            · intro s r r' ha hD
              have h1 : 16 = s := by simpa [Mm.mkMC] using ha
              subst h1
              · show ((fun _ r => aggCells (Mm.tupAt (r 11) 0)) : Nat → (Nat → Value) → Array Value) 16 r = ((fun _ r => aggCells (Mm.tupAt (r 11) 0)) : Nat → (Nat → Value) → Array Value) 16 r'
                simp only [hD 11 rfl]
          case HV =>
            intro iq o hv hnc hi actq w' r hk hd hR
            match iq, hv, hnc, hi, hR with
            | 0, _, _, hi, hR =>
              have hi1 := hi
              simp only [List.getElem?_cons_succ, List.getElem?_cons_zero, Option.some.injEq] at hi1
              subst hi1
              have e0 : actq.eval (.tmp 7) = .pointer (some ⟨p, 0, none⟩) := (hd.out (by kernel_rfl)).trans rfl
              exact wpOp_ranL hi rfl (v := .pointer (some ⟨p, 0, none⟩)) (w' := w') (by simp only [execOp, e0]; rfl) ⟨rfl, Keeps.refl _ _⟩
            | 1, _, _, hi, hR =>
              have hi1 := hi
              simp only [List.getElem?_cons_succ, List.getElem?_cons_zero, Option.some.injEq] at hi1
              subst hi1
              have e0 : actq.eval (.tmp 47) = .pointer (some ⟨p, 0, none⟩) := hd.val (j := 0) (by kernel_rfl) rfl rfl rfl
              exact wpOp_ranL hi rfl (v := .pointer (some ⟨p, 0, none⟩)) (w' := w') (by simp only [execOp, e0]; rfl) ⟨rfl, Keeps.refl _ _⟩
            | 2, _, _, hi, hR =>
              have hi1 := hi
              simp only [List.getElem?_cons_succ, List.getElem?_cons_zero, Option.some.injEq] at hi1
              subst hi1
              have e0 : actq.eval (.tmp 48) = .pointer (some ⟨p, 0, none⟩) := hd.val (j := 1) (by kernel_rfl) rfl rfl rfl
              exact wpOp_ranL hi rfl (v := .pointer (some ⟨p, 0, none⟩)) (w' := w') (by simp only [execOp, e0]; go_simp) ⟨rfl, Keeps.refl _ _⟩
            | 3, _, _, hi, hR =>
              have hi1 := hi
              simp only [List.getElem?_cons_succ, List.getElem?_cons_zero, Option.some.injEq] at hi1
              subst hi1
              have e0 : actq.eval (.tmp 49) = .pointer (some ⟨p, 0, none⟩) := hd.val (j := 2) (by kernel_rfl) rfl rfl rfl
              exact wpOp_ranL hi rfl (v := .pointer (some ⟨p, 0, none⟩)) (w' := w') (by simp only [execOp, e0]; go_simp) ⟨rfl, Keeps.refl _ _⟩
            | 4, _, _, hi, hR =>
              have hi1 := hi
              simp only [List.getElem?_cons_succ, List.getElem?_cons_zero, Option.some.injEq] at hi1
              subst hi1
              have e0 : actq.eval (.tmp 50) = .pointer (some ⟨p, 0, none⟩) := hd.val (j := 3) (by kernel_rfl) rfl rfl rfl
              have c0 := keep_cell hk (fun h => h) HOC.out.1
              have c1 := keep_cell hk (fun h => h) HOC.out.2.1
              have c2 := keep_cell hk (fun h => h) HOC.out.2.2.1
              have c3 := keep_cell hk (fun h => h) HOC.out.2.2.2
              exact wpOp_ranL hi rfl (v := .agg #[.int .i64 10000, .slice a1 n1 cc1, .slice a2 n2 cc2, .slice a3 n3 cc3]) (w' := w') (by simp only [execOp, e0]; go_simp) ⟨rfl, Keeps.refl _ _⟩
            | 5, _, _, hi, hR =>
              have hi1 := hi
              simp only [List.getElem?_cons_succ, List.getElem?_cons_zero, Option.some.injEq] at hi1
              subst hi1
              have e0 : actq.eval (.tmp 11) = .int .i64 (k : Nat) := (hd.out (by kernel_rfl)).trans rfl
              exact wpOp_ranL hi rfl (v := .int .i64 (k : Nat)) (w' := w') (by simp only [execOp, e0]; rfl) ⟨rfl, Keeps.refl _ _⟩
            | 6, _, _, hi, hR =>
              have hi1 := hi
              simp only [List.getElem?_cons_succ, List.getElem?_cons_zero, Option.some.injEq] at hi1
              subst hi1
              have e0 : actq.eval (.tmp 9) = .slice (some ⟨bS, oS, none⟩) sn sc := (hd.out (by kernel_rfl)).trans rfl
              exact wpOp_ranL hi rfl (v := .slice (some ⟨bS, oS, none⟩) sn sc) (w' := w') (by simp only [execOp, e0]; rfl) ⟨rfl, Keeps.refl _ _⟩
            | 7, _, _, hi, hR =>
              have hi1 := hi
              simp only [List.getElem?_cons_succ, List.getElem?_cons_zero, Option.some.injEq] at hi1
              subst hi1
              have e0 : actq.eval (.tmp 11) = .int .i64 (k : Nat) := (hd.out (by kernel_rfl)).trans rfl
              exact wpOp_ranL hi rfl (v := .int .i64 (k : Nat)) (w' := w') (by simp only [execOp, e0]; rfl) ⟨rfl, Keeps.refl _ _⟩
            | 8, _, _, hi, hR =>
              have hi1 := hi
              simp only [List.getElem?_cons_succ, List.getElem?_cons_zero, Option.some.injEq] at hi1
              subst hi1
              have e0 : actq.eval (.tmp 53) = .slice (some ⟨bS, oS, none⟩) sn sc := hd.val (j := 6) (by kernel_rfl) rfl rfl rfl
              have e1 : actq.eval (.tmp 54) = .int .i64 (k : Nat) := hd.val (j := 7) (by kernel_rfl) rfl rfl rfl
              exact wpOp_ranL hi rfl (v := .pointer (some ⟨bS, oS + k * 5, none⟩)) (w' := w') (by simp only [execOp, e0, e1]; go_simp) ⟨rfl, Keeps.refl _ _⟩
            | 9, _, _, hi, hR =>
              have hi1 := hi
              simp only [List.getElem?_cons_succ, List.getElem?_cons_zero, Option.some.injEq] at hi1
              subst hi1
              have e0 : actq.eval (.tmp 55) = .pointer (some ⟨bS, oS + k * 5, none⟩) := hd.val (j := 8) (by kernel_rfl) rfl rfl rfl
              have c0 := keep_cell hk (fun h => h) HSC.out.1
              have c1 := keep_cell hk (fun h => h) HSC.out.2.1
              have c2 := keep_cell hk (fun h => h) HSC.out.2.2.1
              have c3 := keep_cell hk (fun h => h) HSC.out.2.2.2.1
              have c4 := keep_cell hk (fun h => h) HSC.out.2.2.2.2
              exact wpOp_ranL hi rfl (v := .agg #[.int .i64 gf, .int .i64 go, .int .i64 gt, .int .u32 (gs : Int), .slice ad dl cd]) (w' := w') (by simp only [execOp, e0]; go_simp) ⟨rfl, Keeps.refl _ _⟩
            | 10, _, _, hi, hR =>
              have hi1 := hi
              simp only [List.getElem?_cons_succ, List.getElem?_cons_zero, Option.some.injEq] at hi1
              subst hi1
              have e0 : actq.eval (.tmp 52) = .int .i64 (k : Nat) := hd.val (j := 5) (by kernel_rfl) rfl rfl rfl
              have e1 : actq.eval (.tmp 56) = .agg #[.int .i64 gf, .int .i64 go, .int .i64 gt, .int .u32 (gs : Int), .slice ad dl cd] := hd.val (j := 9) (by kernel_rfl) rfl rfl rfl
              exact wpOp_ranL hi rfl (v := .agg #[.int .i64 (k : Int), .int .i64 0, .int .i64 0, .int .i64 gf, .int .i64 go, .int .i64 gt, .int .u32 (gs : Int), .slice ad dl cd]) (w' := w') (by simp only [execOp, List.map_toArray, List.map_cons, List.map_nil, e0, e1]; go_simp) ⟨rfl, Keeps.refl _ _⟩
            | 11, _, hnc, _, _ => cases hnc
            | 12, _, _, hi, hR =>
              have hi1 := hi
              simp only [List.getElem?_cons_succ, List.getElem?_cons_zero, Option.some.injEq] at hi1
              subst hi1
              have e0 : actq.eval (.tmp 58) = r 11 := hd.val (j := 11) (by kernel_rfl) rfl rfl rfl
              exact wpOp_ranL hi rfl (v := r 11) (w' := w') (by simp only [execOp, e0]; rfl) ⟨rfl, Keeps.refl _ _⟩
            | 13, _, _, hi, hR =>
              have hi1 := hi
              simp only [List.getElem?_cons_succ, List.getElem?_cons_zero, Option.some.injEq] at hi1
              subst hi1
              have e0 : actq.eval (.tmp 46) = r 11 := hd.val (j := 12) (by kernel_rfl) rfl rfl rfl
              obtain ⟨K8, hR8⟩ := hR 11 rfl
              obtain ⟨b1, m1, d1, b2, m2, d2, b3, m3, d3, hrv, -⟩ := hR8
              rw [hrv] at e0
              exact wpOp_ranL hi rfl (v := .agg #[.int .i64 10000, .slice b1 m1 d1, .slice b2 m2 d2, .slice b3 m3 d3]) (w' := w') (by simp only [execOp, e0]; rfl) ⟨congrArg (actq.put (some 59)) (show (.agg #[.int .i64 10000, .slice b1 m1 d1, .slice b2 m2 d2, .slice b3 m3 d3] : Value) = Mm.tupAt (r 11) 0 from by rw [hrv]; rfl), Keeps.refl _ _⟩
            | 14, _, _, hi, hR =>
              have hi1 := hi
              simp only [List.getElem?_cons_succ, List.getElem?_cons_zero, Option.some.injEq] at hi1
              subst hi1
              have e0 : actq.eval (.tmp 46) = r 11 := hd.val (j := 12) (by kernel_rfl) rfl rfl rfl
              obtain ⟨K8, hR8⟩ := hR 11 rfl
              obtain ⟨b1, m1, d1, b2, m2, d2, b3, m3, d3, hrv, -⟩ := hR8
              rw [hrv] at e0
              exact wpOp_ranL hi rfl (v := .int .i64 0) (w' := w') (by simp only [execOp, e0]; rfl) ⟨congrArg (actq.put (some 60)) (show (.int .i64 0 : Value) = Mm.tupAt (r 11) 1 from by rw [hrv]; rfl), Keeps.refl _ _⟩
            | 15, hv, _, _, _ => cases hv
            | 16, hv, _, _, _ => cases hv
            | 17, _, _, hi, hR =>
              have hi1 := hi
              simp only [List.getElem?_cons_succ, List.getElem?_cons_zero, Option.some.injEq] at hi1
              subst hi1
              have e0 : actq.eval (.tmp 60) = Mm.tupAt (r 11) 1 := hd.val (j := 14) (by kernel_rfl) rfl rfl rfl
              exact wpOp_ranL hi rfl (v := Mm.tupAt (r 11) 1) (w' := w') (by simp only [execOp, e0]; rfl) ⟨rfl, Keeps.refl _ _⟩
            | n + 18, _, _, hi, _ => simp at hi
          case HC =>
            intro c o hc hi actq w' r hk hd hR
            have h1 : c = 11 := by simpa [Mm.mkMC] using hc
            subst h1
            · have hi1 := hi
              simp only [List.getElem?_cons_succ, List.getElem?_cons_zero, Option.some.injEq] at hi1
              subst hi1
              have e0 : actq.eval (.tmp 51) = .agg #[.int .i64 10000, .slice a1 n1 cc1, .slice a2 n2 cc2, .slice a3 n3 cc3] := hd.val (j := 4) (by kernel_rfl) rfl rfl rfl
              have e1 : actq.eval (.tmp 57) = .agg #[.int .i64 (k : Int), .int .i64 0, .int .i64 0, .int .i64 gf, .int .i64 go, .int .i64 gt, .int .u32 (gs : Int), .slice ad dl cd] := hd.val (j := 10) (by kernel_rfl) rfl rfl rfl
              exact wpOp_callL hi rfl (f := 13) (args := #[.agg #[.int .i64 10000, .slice a1 n1 cc1, .slice a2 n2 cc2, .slice a3 n3 cc3], .agg #[.int .i64 (k : Int), .int .i64 0, .int .i64 0, .int .i64 gf, .int .i64 go, .int .i64 gt, .int .u32 (gs : Int), .slice ad dl cd]]) (by simp only [execOp_call_go, List.map_toArray, List.map_cons, List.map_nil, e0, e1]; rfl) ((HCR2.out w' hk).mono (fun e w2 ⟨b1, m1, d1, b2, m2, d2, b3, m3, d3, he, hk2, hst⟩ => ⟨_, he, _, rfl, hk2, ⟨b1, m1, d1, b2, m2, d2, b3, m3, d3, rfl, hst.mono (fun b _ h => ⟨.inr h, by have h1 := hk.size; omega⟩)⟩⟩))
          case HE =>
            intro L actq w' gg r hL hT
            have em := act_mix (bs := [true, true, true, true, true, true, true, true, true, true, true, true, false, false, true, true, true, true, true, true, true, true, true, true, true, true, true, true, true, true, true, true, true, true, true, true, true, true, true, true, true, true, true, true, true, true, false, false, false, false, false, false, false, false, false, false, false, false, false, false, false, true, true, true, true, true, true, true, true, true, true, true, true, true, true, true, true, true, true, true, true, true, true, true, true, true, true, true, true, true, true, true, true, true, true, true, true, true, true, true, true, true, true, true, true, true, true, true, true, true, true, true, true, true, true, true, true, true, true, true, true, true, true, true, true, true, true, true, true, true, true, true, true, true, true, true, true, true, true, true, true, true, true, true, true, true, true, true, true, true, true, true, true, true]) hT.sz hT.df hT.fr rfl (by kernel_rfl)
            have kW := hT.kp
            have hR11 := hT.c 11 rfl (hL 11 (by decide))
            obtain ⟨eA15, zA15, cs15, -, bA15, sA15⟩ := hT.al 15 rfl (hL 15 (by decide)) _ 12 rfl rfl
            have sA15 := sA15 16 rfl (hL 16 (by decide)) rfl
            subst sA15
            change actq.tmps.getD 12 undef = _ at eA15
            change Blk w' (gg 15) (aggCells (Mm.tupAt (r 11) 0)) 44 at bA15
            have k13 : actq.tmps.getD 13 undef = Mm.tupAt (r 11) 1 := hT.v 17 _ 13 rfl (hL 17 (by decide)) rfl rfl
            generalize hrv11 : r 11 = rv11 at *
            clear hrv11
            obtain ⟨b1, m1, d1, b2, m2, d2, b3, m3, d3, rfl, hst⟩ := hR11
            change actq.tmps.getD 13 undef = .int .i64 0 at k13
            generalize gg 15 = g15 at *
            clear hT hL
            simp only [mix, eA15, k13] at em
            clear eA15 k13
            generalize actq.tmps.getD 47 undef = q47 at em
            generalize actq.tmps.getD 48 undef = q48 at em
            generalize actq.tmps.getD 49 undef = q49 at em
            generalize actq.tmps.getD 50 undef = q50 at em
            generalize actq.tmps.getD 51 undef = q51 at em
            generalize actq.tmps.getD 52 undef = q52 at em
            generalize actq.tmps.getD 53 undef = q53 at em
            generalize actq.tmps.getD 54 undef = q54 at em
            generalize actq.tmps.getD 55 undef = q55 at em
            generalize actq.tmps.getD 56 undef = q56 at em
            generalize actq.tmps.getD 57 undef = q57 at em
            generalize actq.tmps.getD 58 undef = q58 at em
            generalize actq.tmps.getD 46 undef = q46 at em
            generalize actq.tmps.getD 59 undef = q59 at em
            generalize actq.tmps.getD 60 undef = q60 at em
            subst em
            simp only [Exit.then]
            obtain ⟨W9, rfl⟩ : ∃ V, V = w' := ⟨_, rfl⟩
            change Blk W9 g15 #[.int .i64 10000, .slice b1 m1 d1, .slice b2 m2 d2, .slice b3 m3 d3] _ at bA15
            have lpV2 : p < V2.heap.size := by have := HKV.out.size; omega
            have HST9 : Hd (StK (segU R) sn (fun b => b ≠ p) W9 sk (.slice b1 m1 d1) (.slice b2 m2 d2) (.slice b3 m3 d3)) := hid (hst.mono (fun b _ h => by have h2 := h.2; omega))
            have RR := hid bA15
            have HK9 := hid kW
            have lRR := blk_lt bA15
            clear bA15 hst kW HCR2 HSC
            go_upto_region 15 with fail
            have o_RR_0 : W9.cell? ⟨g15, 0, none⟩ = some ((.int .i64 10000)) := blk_cell RR.out 0
            have o_RR_1 : W9.cell? ⟨g15, 1, none⟩ = some ((.slice b1 m1 d1)) := blk_cell RR.out 1
            have o_RR_2 : W9.cell? ⟨g15, 2, none⟩ = some ((.slice b2 m2 d2)) := blk_cell RR.out 2
            have o_RR_3 : W9.cell? ⟨g15, 3, none⟩ = some ((.slice b3 m3 d3)) := blk_cell RR.out 3
            have pc0 := keep_cell HK9.out (fun h => h) HOC.out.1
            have pf0 := (HK9.out.frozen (p := ⟨p, 0, none⟩) lpV2 (fun h => h)).trans (HRK.out.free _)
            have pc1 := keep_cell HK9.out (fun h => h) HOC.out.2.1
            have pf1 := (HK9.out.frozen (p := ⟨p, 1, none⟩) lpV2 (fun h => h)).trans (HRK.out.free _)
            have pc2 := keep_cell HK9.out (fun h => h) HOC.out.2.2.1
            have pf2 := (HK9.out.frozen (p := ⟨p, 2, none⟩) lpV2 (fun h => h)).trans (HRK.out.free _)
            have pc3 := keep_cell HK9.out (fun h => h) HOC.out.2.2.2
            have pf3 := (HK9.out.frozen (p := ⟨p, 3, none⟩) lpV2 (fun h => h)).trans (HRK.out.free _)
            go_region
            clear pc0 pc1 pc2 pc3 pf0 pf1 pf2 pf3
            clear o_RR_0 o_RR_1 o_RR_2 o_RR_3
            generalize hW10 : World.drew (World.setCell (World.setCell (World.setCell (World.setCell W9 _ _) _ _) _ _) _ _) = W10
            have HR11 : Hd (RelW (segU R) sn fts p W10 (startR (k + 1))) := hid (by have h := HSET.out W9 _ _ _ HK9.out HST9.out.stv; rw [← hW10]; exact h.keep (Keeps.drew (Keeps.refl _ _)))
            have ks : Keeps (fun b => b = p) W9 W10 := by rw [← hW10]; exact Keeps.drew (set4_keeps W9 p 0 (.slice b1 m1 d1) (.slice b2 m2 d2) (.slice b3 m3 d3))
            have HK11 : Hd (Keeps (fun b => b = p) W2 W10) := hid ((HKV.out.trans (keep_any HK9.out)).trans ks)
            clear hW10 ks HK9 HST9 RR HSET HOC
            go_wp2
            go_roundw
            case rel => exact ⟨k + 1, by go_num, by omega, HR11, HK11⟩
            case measure => simp [intOf]; omega
        · have q1 : ¬ ((k : Int) < sn) := by omega
          obtain rfl : k = sn := by omega
          have HTK := hid (TickSt.start HRK.out)
          have hzk := HKV.out.size
          have HKT := HKV
          go_wp2_with fail
          go_loopw [14] (fun iv wr => ∃ t : Nat, iv = .int .i64 (t : Int) ∧ t ≤ 400 ∧ Hd (TickSt (segU R) k fts t p wr) ∧ Hd (Keeps (fun b => b = p) W2 wr)) (fun iv _ => 400 - (intOf iv).toNat)
          case atStart => exact ⟨0, rfl, by omega, HTK, HKV⟩
          case round =>
            obtain ⟨V3, rfl⟩ : ∃ V, V = wr := ⟨_, rfl⟩
            obtain ⟨t, rfl, ht, HT, HKV3⟩ := hrel
            by_cases hlt3 : t < 400
            · have q1 : (t : Int) < 400 := by omega
              have q2 : (0 : Int) ≤ t := by omega
              go_wp2_with fail
              refine (TickSt.step HU.out HF.out HT.out hlt3).mono ?_
              rintro e W5 ⟨rfl, ht5, hk5⟩
              have HT5 := hid ht5; have HK5 := hid (HKV3.out.trans hk5)
              clear ht5 hk5
              go_wp2_with fail
              refine (TickSt.held HU.out HT5.out).mono ?_
              rintro e W6 ⟨rfl, ht6, hk6⟩
              have HT6 := hid ht6; have HK6 := hid (HK5.out.trans hk6)
              clear ht6 hk6 HT5 HK5
              go_wp2
              go_roundw
              case rel => exact ⟨t + 1, by go_num, by omega, HT6, HK6⟩
              case measure => simp [intOf]; omega
            · have q1 : ¬ ((t : Int) < 400) := by omega
              obtain rfl : t = 400 := by omega
              obtain ⟨l, a0, c0, a1, c1, a2, c2, hll, hall, hlt4, hnib, o1, o5, o9, hbus⟩ := TickSt.done HU.out HF.out HT.out
              have HLL := hid hll; have HALL := hid hall; have HLT := hid hlt4; have HNB : Hd (NibF V3) := hid hnib; have HBUS := hid (hbus.mono (K' := fun b => b < V3.heap.size) (fun b hb _ => hb)); have HO := hid (And.intro o1 (And.intro o5 o9))
              have lp3 : p < V3.heap.size := by have := HKV3.out.size; omega
              have HV4 := hid ((HV3.out.mono (K' := fun b => b < w.heap.size ∧ b < V3.heap.size) (fun b hb h => ⟨h, by have := HKV3.out.size; omega⟩)).keep HKV3.out (fun b _ h e => by have := HPW.out; have := h.1; omega) |>.mono (K' := fun b => b < V3.heap.size) (fun b _ h => h.2))
              have HK4 : Hd (Keeps (fun _ => False) w V3) := hid (HK3.out.trans' HKV3.out (fun i hi e => by have := HPW.out; omega))
              clear hll hall hlt4 hnib hbus o1 o5 o9 HT HV3 HK3 HKV3 HTK HKT
              go_wp2_with fail
              refine (NewPart_any 4 _).mono ?_
              rintro e W7 ⟨rfl, hpr, hk7⟩
              have HPR := hid hpr
              have lb : V3.heap.size < W7.heap.size := by obtain ⟨_, _, _, _, hb, _⟩ := hpr; exact blk_lt hb
              have o1 := keep_cell hk7 (fun h => h) HO.out.1; have o5 := keep_cell hk7 (fun h => h) HO.out.2.1; have o9 := keep_cell hk7 (fun h => h) HO.out.2.2
              have HO7 := hid o9
              have HBUS7 := hid (HBUS.out.keep hk7 (fun _ _ _ h => h)); have HV7 := hid (HV4.out.keep hk7 (fun _ _ _ h => h)); have HN7 : Hd (NibF W7) := hid (Cr.Nib.keep HNB.out hk7 (fun h => h)); have HK7 := hid (HK4.out.trans hk7)
              obtain ⟨bp, hbp⟩ : ∃ b, V3.heap.size = b := ⟨_, rfl⟩
              rw [hbp] at HPR HBUS7 HV7 lb lp3 ⊢
              clear hpr hk7 hbp HBUS HNB HV4 HK4 HO
              go_wp2_with fail
              clear o1 o5
              go_loopw [16] (fun iv wr => ∃ j : Nat, iv = .int .i64 (j : Int) ∧ j ≤ k ∧ Hd (PutSt (fun b => b = bp) W7 bp (((l.map (sgU R)).take j).foldl putM (newM 4)) wr)) (fun iv _ => k - (intOf iv).toNat)
              case atStart => exact ⟨0, rfl, Nat.zero_le _, hid (putSt_start HPR.out)⟩
              case round =>
                obtain ⟨V4, rfl⟩ : ∃ V, V = wr := ⟨_, rfl⟩
                obtain ⟨j, rfl, hj, PS⟩ := hrel
                have p9 := keep_cell PS.out.2 (fun h => by omega) HO7.out
                by_cases hlt5 : j < k
                · have q1 : (j : Int) < k := by omega
                  have q2 : (0 : Int) ≤ j := by omega
                  obtain ⟨i, hi⟩ : ∃ i, l[j]? = some i := ⟨l[j]'(by rw [HLL.out]; exact hlt5), List.getElem?_eq_getElem _⟩
                  have hil := HLT.out i (List.mem_of_getElem? hi)
                  have hU1 : (l.map (segU R))[j]? = some (segU R i) := by rw [List.getElem?_map, hi]; rfl
                  have hS1 : (l.map (sgU R))[j]? = some (sgU R i) := by rw [List.getElem?_map, hi]; rfl
                  obtain ⟨bx, ox, rfl, hbx, hbx2, hc⟩ := bus_cells HBUS7.out (by rw [List.length_map, HLL.out]; omega)
                  obtain ⟨-, -, -, e3, e4, e5, e6, ad, cd, e7, hsl⟩ := hc j _ hU1
                  have hO := HCOF.out _ (sgU_mem (R := R) (i := i) (by rw [HNN.out]; exact hil))
                  obtain ⟨f1, f2, f3⟩ := HPUT.out ((l.map (sgU R)).take j) (fun s hs => by
                    obtain ⟨i2, hi2, rfl⟩ := List.mem_map.1 (List.mem_of_mem_take hs)
                    exact HCOF.out _ (sgU_mem (by rw [HNN.out]; exact HLT.out i2 hi2)))
                  obtain ⟨q0, -, -⟩ := put_of (x := x) (by have := HXL.out; omega) HB.out f1 hO
                  have HNX : Hd (((l.map (sgU R)).take (j + 1)).foldl putM (newM 4) = putM (((l.map (sgU R)).take j).foldl putM (newM 4)) (sgU R i)) := hid (by rw [List.take_add_one, hS1, List.foldl_append]; rfl)
                  have hsl2 : Sl (fun b => b < bp) W7 (.slice ad (sgU R i).d.length cd) (u8s (sgU R i).d) := hsl
                  have HSL := hid (sl_below hsl2 PS.out.2 (fun b _ h e => by omega))
                  have hnb : ¬ bx = bp := by omega
                  have m3 : V4.cell? ⟨bx, ox + j * 8 + 3, none⟩ = some (.int .i64 (sgU R i).f) := keep_cell PS.out.2 hnb e3
                  have m4 : V4.cell? ⟨bx, ox + j * 8 + 3 + 1, none⟩ = some (.int .i64 (sgU R i).o) := keep_cell PS.out.2 hnb e4
                  have m5 : V4.cell? ⟨bx, ox + j * 8 + 3 + 2, none⟩ = some (.int .i64 (sgU R i).t) := keep_cell PS.out.2 hnb e5
                  have m6 : V4.cell? ⟨bx, ox + j * 8 + 3 + 3, none⟩ = some (.int .u32 ((sgU R i).s : Int)) := keep_cell PS.out.2 hnb e6
                  have m7 : V4.cell? ⟨bx, ox + j * 8 + 3 + 4, none⟩ = some (.slice ad (sgU R i).d.length cd) := keep_cell PS.out.2 hnb e7
                  have HOK := hid f1.ok; have HE0 := hid q0; have HO' := hid hO
                  clear e3 e4 e5 e6 e7 hc hsl hsl2 hO f1 f2 f3 q0 hU1 hS1 hi
                  generalize hM : ((l.map (sgU R)).take j).foldl putM (newM 4) = M at *
                  clear hM
                  generalize hy : sgU R i = y at *
                  clear hy
                  have HYB : Hd (∀ c ∈ y.d, c < 256) := hid (fun c hc => by rw [HO'.out.d] at hc; exact HB.out c (List.mem_of_mem_drop (List.mem_of_mem_take hc)))
                  have HY32 : Hd (y.s < 4294967296) := hid (by rw [HO'.out.s]; exact Cr.crc_lt HB.out)
                  have HPUTC : Hd (Calls Tryd.prog 17 #[.pointer (some ⟨bp, 0, none⟩), .agg #[.int .i64 y.f, .int .i64 y.o, .int .i64 y.t, .int .u32 (y.s : Int), .slice ad y.d.length cd]] V4 fun e w' => e = .returned (.int .i64 0) ∧ PutSt (fun b => b = bp) W7 bp (putM M y) w') := hid ((Put_any _ bp M y ad cd V4 PS.out.1 HOK.out HSL.out HYB.out HY32.out).mono (fun e w' hpp => by obtain ⟨h1, h2⟩ := putSt_put PS.out hpp; rw [HE0.out] at h1; exact ⟨h1, h2⟩))
                  obtain ⟨yf, hyf⟩ : ∃ q, y.f = q := ⟨_, rfl⟩
                  obtain ⟨yo, hyo⟩ : ∃ q, y.o = q := ⟨_, rfl⟩
                  obtain ⟨yt, hyt⟩ : ∃ q, y.t = q := ⟨_, rfl⟩
                  obtain ⟨ys, hys⟩ : ∃ q, y.s = q := ⟨_, rfl⟩
                  obtain ⟨yl, hyl⟩ : ∃ q, y.d.length = q := ⟨_, rfl⟩
                  rw [hyf, hyo, hyt, hys, hyl] at HPUTC
                  rw [hyf] at m3; rw [hyo] at m4; rw [hyt] at m5; rw [hys] at m6; rw [hyl] at m7
                  clear hyf hyo hyt hys hyl HSL HYB HY32 HO' HOK HE0
                  go_wp2_with fail
                  refine HPUTC.out.mono ?_
                  rintro e W8 ⟨rfl, hps⟩
                  rw [← HNX.out] at hps
                  have HPS := hid hps
                  clear hps HPUTC HNX m3 m4 m5 m6 m7 p9
                  go_wp2
                  go_roundw
                  case rel => exact ⟨j + 1, by go_num, by omega, HPS⟩
                  case measure => simp [intOf]; omega
                · have q1 : ¬ ((j : Int) < k) := by omega
                  obtain rfl : j = k := by omega
                  obtain ⟨hby, hok⟩ := HEND.out l HALL.out HLT.out
                  have ps := PS.out
                  rw [List.take_of_length_le (by rw [List.length_map, HLL.out]; exact Nat.le_refl _)] at ps
                  have HPS := hid ps
                  have HN8 : Hd (NibF V4) := hid (Cr.Nib.keep HN7.out ps.2 (fun e => by omega))
                  have HV8 := hid (HV7.out.keep ps.2 (fun b _ h e => by omega))
                  have hOK := hid hok; have HBY := hid hby
                  have HKF : Hd (Keeps (fun _ => False) w V4) := hid (HK7.out.trans' ps.2 (fun i hi e => by have := HPW.out; omega))
                  clear ps PS hby hok
                  go_wp2_with fail
                  have hbc := Bytes_any _ bp _ V4 HN8.out HPS.out.1 hOK.out
                  rw [HBY.out] at hbc
                  dsimp only at hbc
                  rw [HXN.out] at hbc
                  refine hbc.mono ?_
                  clear hbc
                  rintro e W9 ⟨ba, bc, rfl, hbo, hk9⟩
                  have HSB : Hd (Sl (fun _ => True) W9 (.slice ba xl bc) (u8s x)) := hid (row_sl (hbo.row.mono (fun _ _ _ => trivial)) (by rw [u8s_length, HXN.out]))
                  have HV9 := hid (HV8.out.keep hk9 (fun _ _ _ h => h))
                  have HKG := hid (HKF.out.trans hk9)
                  clear hbo hk9
                  go_wp2_with fail
                  refine (SameBytes_any _ _ _ _ x x _ HSB.out HV9.out HB.out HB.out).mono ?_
                  rw [decide_eq_true (rfl : x = x)]
                  rintro e wx ⟨rfl, rfl⟩
                  go_wp2
                  go_ret
                  exact ⟨rfl, HKG.out⟩
end Go.Proofs.YtgfekgceeigdiaaDoor
